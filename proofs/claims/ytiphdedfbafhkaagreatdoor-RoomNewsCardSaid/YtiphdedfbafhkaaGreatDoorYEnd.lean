/- Contracts that the closing theorem wants (End). No condition beyond each law's own. -/
import Derived.Test.YtiphdedfbafhkaaGreatDoorYDq1
import Derived.Test.YtiphdedfbafhkaaGreatDoorYDr1
import Derived.Test.YtiphdedfbafhkaaGreatDoorYLw5
import Derived.Test.YtiphdedfbafhkaaGreatDoorYJq
import Derived.Test.YtiphdedfbafhkaaGreatDoorZRgA
import Derived.Test.YtiphdedfbafhkaaGreatDoorZBB
import Derived.Deep.LoopGhost
namespace Go.Proofs.YtiphdedfbafhkaaGreatDoor
open Go.RowKit

section
variable {c c' : Nat → Nat} {w w' : World} {k r p : Nat}

set_option maxRecDepth 100000 in
set_option maxHeartbeats 4000000 in
theorem do14_cl0 {ar ck tb tp : Nat} {la : List Int} {now : Int} {tl dl : List Tm} {l : List One} {D : List RD} {ao : Option Addr} {cap : Nat} {ro : Option Addr} {rcap : Nat} {R : List DR} (h : JW c w k r p ar ck tb tp la now tl dl l D ao cap ro rcap R) (_hk : k < 150) (a b at0 hi : Int) (ha : a < 0 ∨ (D.length : Int) ≤ a) :
    Calls Tryz.prog 46 #[.pointer (some ⟨r, 0, none⟩), .pointer (some ⟨p, 0, none⟩), .agg #[.int .i64 8, .int .i64 a, .int .i64 b, .int .i64 at0, .int .i64 hi]] w fun e w' => e = .returned (.bool true) ∧ ∃ c', Stp (1 ≤ ·) c c' w w' ∧ JE c' w' (k + 1) r p := by
  obtain ⟨xb, hxb⟩ : ∃ x, x = w.heap.size := ⟨_, rfl⟩
  obtain ⟨c1, hc1, t1⟩ := ((Stp.refl (fun _ => False) c w).alloc (.cells #[.int .i64 8, .int .i64 a, .int .i64 b, .int .i64 at0, .int .i64 hi] 91) 0).name
  have X1 := Lib.hid (show Blk c1 0 (w.alloc (.cells #[.int .i64 8, .int .i64 a, .int .i64 b, .int .i64 at0, .int .i64 hi] 91)) xb [.int .i64 8, .int .i64 a, .int .i64 b, .int .i64 at0, .int .i64 hi] 91 by rw [hc1.out, hxb]; exact Blk.new c 0 w _ _)
  have H1 := Lib.hid (h.stpF t1.out)
  have S1 := Lib.hid (t1.out.mono (J' := (1 ≤ ·)) (fun _ h => h.elim))
  clear h hc1 t1
  go_enter Tryz.func46, Tryz.ntmps46
  go_upto_region 1 with fail
  rw [← hxb]
  generalize w.alloc (.cells #[.int .i64 8, .int .i64 a, .int .i64 b, .int .i64 at0, .int .i64 hi] 91) = w1 at X1 H1 S1 ⊢
  clear hxb
  obtain ⟨x0, x1, x2, x3, x4, lx⟩ := ro_blk X1.out
  have HC := Lib.hid (claim14_bad (c := c1) a b 3 (by decide) ((rclaim_none (by decide) H1.out.code a b ha).mono (fun e w' ⟨tt, vv, h1, c', t, _, e1⟩ => ⟨tt, vv, h1, c', t, e1⟩)) (fun c2 W hW => r14trynew_none (H1.out.stpF hW).doc a b (by rw [H1.out.law.len]; exact ha)))
  go_wp2_with fail
  refine HC.out.mono ?_
  rintro e w2 ⟨rfl, c2, t2⟩
  have HJ := Lib.hid (H1.out.stpF t2)
  have S2 := Lib.hid (S1.out.trans (t2.mono (fun _ h => h.elim)))
  clear t2 H1 S1 x0 x1 x2 x3 x4 lx
  go_wp2
  go_ret
  exact ⟨rfl, c2, S2.out, ⟨ar, ck, tb, tp, la, now, tl, dl, l, D, ao, cap, ro, rcap, R, { HJ.out with law := HJ.out.law.mono (Nat.le_succ k) }⟩⟩

theorem rclaim_bad2 {ar ck tb tp : Nat} {la : List Int} {now : Int} {tl dl : List Tm} {l : List One} {D : List RD} {ao : Option Addr} {cap : Nat} {ro : Option Addr} {rcap : Nat} {R : List DR} (h : JW c w k r p ar ck tb tp la now tl dl l D ao cap ro rcap R) {i : Nat} {d : RD} {e : DR} (hd : D[i]? = some d) (he : R[i]? = some e) (b : Int) (hb : b < 1 ∨ 2 ^ d.sh < b) :
    Calls Tryz.prog 8 #[.pointer (some ⟨r, 0, none⟩), .int .i64 (i : Int), .int .i64 b] w fun e w' => ∃ tt vv, e = .returned (.tuple #[.agg #[.bool false, .pointer none, .int .i64 0, .slice none 0 0, .int .i64 0, .bool false, .bool false, .bool false, .pointer none, .int .i64 0, .int .i64 0, .int .i64 0, .int .i64 0, .slice none 0 0, .int .i64 0], .iface tt vv]) ∧ ∃ c', Stp (fun _ => False) c c' w w' ∧ ErrAt c' w' (.iface tt vv) 1 := by
  have hsh := (h.law.rings i d e hd he).sh
  by_cases hm : d.many = true
  · refine (rclaim_mbad (by decide) h.code hd hm b hb).mono ?_
    rintro e1 w1 ⟨tt, vv, h1, c1, t1, -, e1⟩
    exact ⟨tt, vv, h1, c1, t1, e1⟩
  · refine (rclaim_sbad (by decide) h.code hd (by simpa using hm) (by omega) b hb).mono ?_
    rintro e1 w1 ⟨tt, vv, h1, c1, t1, -, e1⟩
    exact ⟨tt, vv, h1, c1, t1, e1⟩

set_option maxRecDepth 100000 in
set_option maxHeartbeats 4000000 in
theorem do14_cl1 {ar ck tb tp : Nat} {la : List Int} {now : Int} {tl dl : List Tm} {l : List One} {D : List RD} {ao : Option Addr} {cap : Nat} {ro : Option Addr} {rcap : Nat} {R : List DR} (h : JW c w k r p ar ck tb tp la now tl dl l D ao cap ro rcap R) (_hk : k < 150) (b at0 hi : Int) {i : Nat} {d : RD} {e : DR} (hd : D[i]? = some d) (he : R[i]? = some e) (hb : b < 1 ∨ 2 ^ d.sh < b) :
    Calls Tryz.prog 46 #[.pointer (some ⟨r, 0, none⟩), .pointer (some ⟨p, 0, none⟩), .agg #[.int .i64 8, .int .i64 (i : Int), .int .i64 b, .int .i64 at0, .int .i64 hi]] w fun e w' => e = .returned (.bool true) ∧ ∃ c', Stp (1 ≤ ·) c c' w w' ∧ JE c' w' (k + 1) r p := by
  obtain ⟨xb, hxb⟩ : ∃ x, x = w.heap.size := ⟨_, rfl⟩
  obtain ⟨c1, hc1, t1⟩ := ((Stp.refl (fun _ => False) c w).alloc (.cells #[.int .i64 8, .int .i64 (i : Int), .int .i64 b, .int .i64 at0, .int .i64 hi] 91) 0).name
  have X1 := Lib.hid (show Blk c1 0 (w.alloc (.cells #[.int .i64 8, .int .i64 (i : Int), .int .i64 b, .int .i64 at0, .int .i64 hi] 91)) xb [.int .i64 8, .int .i64 (i : Int), .int .i64 b, .int .i64 at0, .int .i64 hi] 91 by rw [hc1.out, hxb]; exact Blk.new c 0 w _ _)
  have H1 := Lib.hid (h.stpF t1.out)
  have S1 := Lib.hid (t1.out.mono (J' := (1 ≤ ·)) (fun _ h => h.elim))
  clear h hc1 t1
  go_enter Tryz.func46, Tryz.ntmps46
  go_upto_region 1 with fail
  rw [← hxb]
  generalize w.alloc (.cells #[.int .i64 8, .int .i64 (i : Int), .int .i64 b, .int .i64 at0, .int .i64 hi] 91) = w1 at X1 H1 S1 ⊢
  clear hxb
  obtain ⟨x0, x1, x2, x3, x4, lx⟩ := ro_blk X1.out
  have HC := Lib.hid (claim14_bad (c := c1) (i : Int) b 1 (by decide) (rclaim_bad2 H1.out hd he b hb) (fun c2 W hW => r14trynew_arg (H1.out.stpF hW).doc he b (by rw [(H1.out.law.rings i d e hd he).n, pow_cast]; exact hb)))
  go_wp2_with fail
  refine HC.out.mono ?_
  rintro e w2 ⟨rfl, c2, t2⟩
  have HJ := Lib.hid (H1.out.stpF t2)
  have S2 := Lib.hid (S1.out.trans (t2.mono (fun _ h => h.elim)))
  clear t2 H1 S1 x0 x1 x2 x3 x4 lx
  go_wp2
  go_ret
  exact ⟨rfl, c2, S2.out, ⟨ar, ck, tb, tp, la, now, tl, dl, l, D, ao, cap, ro, rcap, R, { HJ.out with law := HJ.out.law.mono (Nat.le_succ k) }⟩⟩

set_option maxRecDepth 100000 in
set_option maxHeartbeats 4000000 in
theorem do14_cl2 {ar ck tb tp : Nat} {la : List Int} {now : Int} {tl dl : List Tm} {l : List One} {D : List RD} {ao : Option Addr} {cap : Nat} {ro : Option Addr} {rcap : Nat} {R : List DR} (h : JW c w k r p ar ck tb tp la now tl dl l D ao cap ro rcap R) (_hk : k < 150) (b at0 hi : Int) {i : Nat} {d : RD} {e : DR} (hd : D[i]? = some d) (he : R[i]? = some e) (hb : 1 ≤ b ∧ b ≤ 2 ^ d.sh) :
    Calls Tryz.prog 46 #[.pointer (some ⟨r, 0, none⟩), .pointer (some ⟨p, 0, none⟩), .agg #[.int .i64 8, .int .i64 (i : Int), .int .i64 b, .int .i64 at0, .int .i64 hi]] w fun e w' => e = .returned (.bool true) ∧ ∃ c', Stp (1 ≤ ·) c c' w w' ∧ JE c' w' (k + 1) r p := by
  obtain ⟨xb, hxb⟩ : ∃ x, x = w.heap.size := ⟨_, rfl⟩
  obtain ⟨c1, hc1, t1⟩ := ((Stp.refl (fun _ => False) c w).alloc (.cells #[.int .i64 8, .int .i64 (i : Int), .int .i64 b, .int .i64 at0, .int .i64 hi] 91) 0).name
  have X1 := Lib.hid (show Blk c1 0 (w.alloc (.cells #[.int .i64 8, .int .i64 (i : Int), .int .i64 b, .int .i64 at0, .int .i64 hi] 91)) xb [.int .i64 8, .int .i64 (i : Int), .int .i64 b, .int .i64 at0, .int .i64 hi] 91 by rw [hc1.out, hxb]; exact Blk.new c 0 w _ _)
  have H1 := Lib.hid (h.stpF t1.out)
  have S1 := Lib.hid (t1.out.mono (J' := (1 ≤ ·)) (fun _ h => h.elim))
  clear h hc1 t1
  go_enter Tryz.func46, Tryz.ntmps46
  go_upto_region 1 with fail
  rw [← hxb]
  generalize w.alloc (.cells #[.int .i64 8, .int .i64 (i : Int), .int .i64 b, .int .i64 at0, .int .i64 hi] 91) = w1 at X1 H1 S1 ⊢
  clear hxb
  obtain ⟨x0, x1, x2, x3, x4, lx⟩ := ro_blk X1.out
  have HC := Lib.hid (claim14_ok H1.out hd he b hb _hk)
  go_wp2_with fail
  refine HC.out.mono ?_
  rintro e w2 ⟨rfl, c2, t2, j2⟩
  have HJ := Lib.hid j2
  have S2 := Lib.hid (S1.out.trans (t2.mono (fun j hj => by omega)))
  clear t2 j2 H1 S1 x0 x1 x2 x3 x4 lx
  go_wp2
  go_ret
  exact ⟨rfl, c2, S2.out, HJ.out⟩

set_option maxRecDepth 100000 in
set_option maxHeartbeats 4000000 in
theorem do14_other (h : JE c w k r p) (kd a b at0 hi : Int) (hkd : kd < 0 ∨ 10 < kd) :
    Calls Tryz.prog 46 #[.pointer (some ⟨r, 0, none⟩), .pointer (some ⟨p, 0, none⟩), .agg #[.int .i64 kd, .int .i64 a, .int .i64 b, .int .i64 at0, .int .i64 hi]] w fun e w' => e = .returned (.bool true) ∧ ∃ c', Stp (1 ≤ ·) c c' w w' ∧ JE c' w' (k + 1) r p := by
  have g0 : (kd == 0) = false := by simp; omega
  have g1 : (kd == 1) = false := by simp; omega
  have g2 : (kd == 2) = false := by simp; omega
  have g3 : (kd == 3) = false := by simp; omega
  have g4 : (kd == 4) = false := by simp; omega
  have g5 : (kd == 5) = false := by simp; omega
  have g6 : (kd == 6) = false := by simp; omega
  have g7 : (kd == 7) = false := by simp; omega
  have g8 : (kd == 8) = false := by simp; omega
  have g9 : (kd == 9) = false := by simp; omega
  have g10 : (kd == 10) = false := by simp; omega
  clear hkd
  obtain ⟨ar, ck, tb, tp, la, now, tl, dl, l, D, ao, cap, ro, rcap, R, h⟩ := h
  obtain ⟨xb, hxb⟩ : ∃ x, x = w.heap.size := ⟨_, rfl⟩
  obtain ⟨c1, hc1, t1⟩ := ((Stp.refl (fun _ => False) c w).alloc (.cells #[.int .i64 kd, .int .i64 a, .int .i64 b, .int .i64 at0, .int .i64 hi] 91) 0).name
  have X1 := Lib.hid (show Blk c1 0 (w.alloc (.cells #[.int .i64 kd, .int .i64 a, .int .i64 b, .int .i64 at0, .int .i64 hi] 91)) xb [.int .i64 kd, .int .i64 a, .int .i64 b, .int .i64 at0, .int .i64 hi] 91 by rw [hc1.out, hxb]; exact Blk.new c 0 w _ _)
  have H1 := Lib.hid (h.stpF t1.out)
  have S1 := Lib.hid (t1.out.mono (J' := (1 ≤ ·)) (fun _ h => h.elim))
  clear h hc1 t1
  go_enter Tryz.func46, Tryz.ntmps46
  go_upto_region 1 with fail
  rw [← hxb]
  generalize w.alloc (.cells #[.int .i64 kd, .int .i64 a, .int .i64 b, .int .i64 at0, .int .i64 hi] 91) = w1 at X1 H1 S1 ⊢
  clear hxb
  obtain ⟨x0, x1, x2, x3, x4, lx⟩ := ro_blk X1.out
  go_wp2
  go_ret
  exact ⟨rfl, c1, S1.out, ⟨ar, ck, tb, tp, la, now, tl, dl, l, D, ao, cap, ro, rcap, R, { H1.out with law := H1.out.law.mono (Nat.le_succ k) }⟩⟩
/-- Whatever is done. -/
theorem do14_any (h : JE c w k r p) (hk : k < 150) (x : RO) (hs : x.kd = 0 → x.a ≤ 64) :
    Calls Tryz.prog 46 #[.pointer (some ⟨r, 0, none⟩), .pointer (some ⟨p, 0, none⟩), .agg #[.int .i64 x.kd, .int .i64 x.a, .int .i64 x.b, .int .i64 x.at_, .int .i64 x.hi]] w fun e w' => e = .returned (.bool true) ∧ ∃ c', Stp (1 ≤ ·) c c' w w' ∧ JE c' w' (k + 1) r p := by
  obtain ⟨kd, a, b, at0, hi⟩ := x
  simp only at hs ⊢
  by_cases hkd : kd < 0 ∨ 10 < kd
  · exact do14_other h kd a b at0 hi hkd
  have h0 := h
  obtain ⟨ar, ck, tb, tp, la, now, tl, dl, l, D, ao, cap, ro, rcap, R, h⟩ := h
  have ring : ∀ a : Int, (a < 0 ∨ (D.length : Int) ≤ a) ∨ ∃ (i : Nat) (d : RD) (e : DR), a = (i : Int) ∧ D[i]? = some d ∧ R[i]? = some e := fun a => by
    by_cases ha : a < 0 ∨ (D.length : Int) ≤ a
    · exact .inl ha
    · obtain ⟨i, rfl⟩ := Int.eq_ofNat_of_zero_le (show 0 ≤ a by omega)
      obtain ⟨d, e, hd, he, -⟩ := h.law.get (show i < D.length by omega)
      exact .inr ⟨i, d, e, rfl, hd, he⟩
  obtain ⟨q, rfl⟩ := Int.eq_ofNat_of_zero_le (show 0 ≤ kd by omega)
  have hq : q ≤ 10 := by omega
  match q, hq with
  | 0, _ =>
    by_cases hb : b < 0 ∨ 1 < b
    · exact do14_ringk h hk a b at0 hi hb
    · by_cases hn : NoPow a
      · exact do14_rings h hk a b at0 hi (by omega) hn
      · obtain ⟨sh, hsh, hn⟩ : ∃ sh, sh < 21 ∧ a = ((2 ^ sh : Nat) : Int) := by
          refine Decidable.byContradiction fun hc => hn fun sh hsh he => hc ⟨sh, hsh, he⟩
        by_cases hD : 8 ≤ D.length
        · exact do14_ringm h hk a b at0 hi (by omega) hsh hn hD
        · have h6 : sh ≤ 6 := by
            have := hs rfl
            rcases Nat.lt_or_ge sh 7 with hlt | hge
            · omega
            · have : 2 ^ 7 ≤ 2 ^ sh := Nat.pow_le_pow_right (by decide) hge
              omega
          rcases (show b = 0 ∨ b = 1 by omega) with rfl | rfl
          · exact do14_rings1 h hk a at0 hi (by omega) h6 hn
          · exact do14_ringm1 h hk a at0 hi (by omega) h6 hn
  | 1, _ =>
    by_cases hl : l.length < 64
    · exact do14_addo h hk a b at0 hi hl
    · exact do14_addf h hk a b at0 hi (by omega)
  | 2, _ =>
    rcases ring a with ha | ⟨i, d, e, rfl, hd, he⟩
    · exact do14_enl0 h hk a b at0 hi ha
    · exact do14_enl1 h hk b at0 hi hd he
  | 3, _ =>
    rcases ring a with ha | ⟨i, d, e, rfl, hd, he⟩
    · exact do14_sign0 h hk a b at0 hi ha
    · exact do14_sign1 h hk b at0 hi hd he
  | 4, _ => exact do14_park h0 hk a b at0 hi
  | 5, _ => exact do14_wake h0 hk a b at0 hi
  | 6, _ =>
    by_cases h1 : at0 < 1
    · exact do14_tickb h hk a b at0 hi (er := 1) (.inl ⟨h1, rfl⟩)
    · by_cases h2 : 1099511627776 - now < at0
      · exact do14_tickb h hk a b at0 hi (er := 5) (.inr ⟨by omega, h2, rfl⟩)
      · exact do14_ticko h hk a b at0 hi (by omega) (by omega)
  | 7, _ => exact do14_halt h hk a b at0 hi
  | 8, _ =>
    rcases ring a with ha | ⟨i, d, e, rfl, hd, he⟩
    · exact do14_cl0 h hk a b at0 hi ha
    · by_cases hb : b < 1 ∨ 2 ^ d.sh < b
      · exact do14_cl1 h hk b at0 hi hd he hb
      · exact do14_cl2 h hk b at0 hi hd he (by omega)
  | 9, _ =>
    rcases ring a with ha | ⟨i, d, e, rfl, hd, he⟩
    · exact do14_show0 h hk a b at0 hi ha
    · by_cases h1 : hi < at0
      · exact do14_showb h hk b at0 hi hd he h1
      · rcases hm : d.many with _ | _
        · by_cases h2 : hi ≤ e.pub ∨ e.cl < hi
          · exact do14_showsb h hk b at0 hi hd he hm (by omega) h2
          · exact do14_shows h hk b at0 hi hd he hm (by omega) (by omega) (by omega)
        · by_cases h2 : at0 < 0 ∨ e.cl < at0
          · exact do14_showmb h hk b at0 hi hd he hm (by omega) h2
          · exact do14_showm h hk b at0 hi hd he hm (by omega) (by omega) (by omega)
  | 10, _ =>
    rcases ring a with ha | ⟨i, d, e, rfl, hd, he⟩
    · exact do14_pub0 h hk a b at0 hi ha
    · by_cases h1 : at0 < 0 ∨ 4611686018427387904 < at0
      · exact do14_pubr h hk b at0 hi hd he h1
      · rcases hm : d.many with _ | _
        · by_cases h2 : e.pub < at0 - 1
          · exact do14_pubslow h hk b at0 hi hd he hm (by omega) (by omega) h2
          · exact do14_pubs h hk b at0 hi hd he hm (by omega) (by omega) (by omega)
        · exact do14_pubm h hk b at0 hi hd he hm (by omega) (by omega)
end
end Go.Proofs.YtiphdedfbafhkaaGreatDoor

namespace Go.Proofs.YtiphdedfbafhkaaGreatDoor
open Go.RowKit Go.ChangeShapes Go.WideShapes Go.Deep Go.Joins

theorem J14.init : J14 0 [] 0 [] [] [] [] [] :=
  ⟨rfl, fun i d e hd _ => by simp at hd, fun i j d e _ hd _ => by simp at hd, fun i d hd => by simp at hd, by decide, by decide, fun i d hd => by simp at hd, rfl, fun t ht => absurd ht List.not_mem_nil, List.nodup_nil, by decide, fun x hx => absurd hx List.not_mem_nil, by decide, fun x hx => absurd hx List.not_mem_nil⟩
theorem fin1 {c' : Nat → Nat} {w w' : World} (h : Stp (1 ≤ ·) (fun _ => 0) c' w w') : Stp (2 ≤ ·) (fun _ => 0) c' w w' := ⟨h.os, h.tape, h.output, h.size, h.col, fun i hi _ => h.block i hi (by decide)⟩
theorem JE.tabdeb {c : Nat → Nat} {w : World} {k r p : Nat} (h : JE c w k r p) : Tab w ∧ c 1 = 0 := by
  obtain ⟨ar, ck, tb, tp, la, now, tl, dl, l, D, ao, cap, ro, rcap, R, h⟩ := h
  exact ⟨h.tab, h.deb⟩

theorem Tryz.infoStateN : (Tryz.prog.info? 94).map (fun i => (i.zero, i.size, i.bytes)) = some (some (.int .i64 0), 1, 8) := by kernel_rfl
/-- The room alone, its first ring's list. -/
structure NS (c : Nat → Nat) (w : World) (r N ar ck tb : Nat) (la : List Int) (now : Int) (tl : List Tm) (l : List One) (D : List RD) (ao : Option Addr) (cap : Nat) (d : RD) : Prop where
  rm : RMs c 300 w r ar ck tb la now tl l D ao cap
  d0 : D[0]? = some d
  wl : d.wl.Nodup ∧ ∀ x ∈ d.wl, 0 ≤ x ∧ x < l.length
  ln : l.length = N
  l64 : N ≤ 64
  t64 : tl.length ≤ 64
  wk : WakesOK l 150000
  st : StOK l
theorem NS.wlen {c : Nat → Nat} {w : World} {r N ar ck tb : Nat} {la : List Int} {now : Int} {tl : List Tm} {l : List One} {D : List RD} {ao : Option Addr} {cap : Nat} {d : RD} (h : NS c w r N ar ck tb la now tl l D ao cap d) : d.wl.length ≤ 64 := by
  have h1 := nodup_len l.length d.wl h.wl.1 (fun x hx => by have := h.wl.2 x hx; omega)
  have := h.ln
  have := h.l64
  omega
set_option maxRecDepth 100000 in
set_option maxHeartbeats 8000000 in
theorem rnews_in (oo : Option Addr) (n ocap : Nat) (ops : List RO) (wo : Option Addr) (m wcap : Nat) (ks : List Int) (w : World) (ho : In (fun _ => 0) 0 w 5 oo n ocap (ops.flatMap RO.cells)) (hl : ops.length = n) (hw : In (fun _ => 0) 0 w 1 wo m wcap (ks.map (Value.int .u8))) (hr : ∀ x ∈ ks, 0 ≤ x ∧ x ≤ 255) (hs : smallT ops = true) (hm : m ≤ 30) (ht : Tab w) :
    Calls Tryz.prog 5 #[.slice oo n ocap, .slice wo m wcap] w fun e w' => e = .returned (.bool true) ∧ Below w.heap.size w w' := by
  have HO := Lib.hid ho
  have HLN := Lib.hid hl
  have HWI := Lib.hid hw
  have HWR := Lib.hid hr
  have HWL := Lib.hid (show ks.length = m by simpa using hw.1)
  have HSM := Lib.hid hs
  have HT := Lib.hid ht
  have HK := Lib.hid (show n ≤ 150 by have := (smallT_ok hs).1; omega)
  have HM := Lib.hid hm
  have gm : decide ((30 : Int) < (m : Int)) = false := by simp; omega
  have gm2 : decide (30 < m) = false := by simp; omega
  clear ho hl hw hr hs ht hm
  go_enter Tryz.func5, Tryz.ntmps5
  go_wp2_with fail
  refine (small14_c HO.out HLN.out).mono ?_
  rintro e w1 ⟨rfl, c1, t1⟩
  rw [HSM.out]
  have T1 := Lib.hid (t1.mono (J' := (1 ≤ ·)) (fun _ h => h.elim))
  clear t1
  go_wp2_with fail
  refine (rmnew_c c1 300 w1).mono ?_
  rintro e w2 ⟨r, ar, ck, tb, rfl, c2, t2, m2⟩
  have T2 := Lib.hid (T1.out.trans (t2.mono (fun j hj => by omega)))
  have M2 := Lib.hid (RMs.start m2)
  clear t2 m2 T1
  go_wp2_with fail
  refine (r14new_c c2 w2).mono ?_
  rintro e w3 ⟨p, tp, rfl, c3, t3, d3⟩
  have T3 := Lib.hid (T2.out.trans (t3.mono (fun _ h => h.elim)))
  have J3 := Lib.hid (show JE c3 w3 0 r p from ⟨ar, ck, tb, tp, [], 0, [], [], [], [], none, 0, none, 0, [], ⟨M2.out.stpF t3, d3, J14.init, HT.out.stp T3.out (by decide), T3.out.col _ (World.block_lt_of_cell? w _ (HT.out 0 (by decide))), fun i d hd => by simp at hd⟩⟩)
  clear t3 d3 T2 M2 gm gm2
  go_wp2_with fail
  go_loopg [41] n (fun gh iv wr => ∃ (j : Nat) (c5 : Nat → Nat), iv = .int .i64 j ∧ j + gh = n ∧ Hid (JE c5 wr j r p) ∧ Hid (Stp (1 ≤ ·) (fun _ => 0) c5 w wr))
  case atStart => exact ⟨0, c3, rfl, by omega, J3, T3⟩
  case round =>
    obtain ⟨j, c5, rfl, hj, J5, T5⟩ := hrel
    clear J3 T3
    by_cases hlt : j < n
    · obtain ⟨x, hx⟩ : ∃ x, ops[j]? = some x := ⟨_, List.getElem?_eq_getElem (show j < ops.length by rw [HLN.out]; exact hlt)⟩
      obtain ⟨a, ha, y0, y1, y2, y3, y4⟩ := ro_cells (HO.out.stp T5.out (by decide)) hx
      subst ha
      have HSX := Lib.hid (show x.kd = 0 → x.a ≤ 64 from (smallT_ok HSM.out).2 x (List.mem_of_getElem? hx))
      clear hx
      obtain ⟨kd, xa, xb0, xat, xhi⟩ := x
      simp only at y0 y1 y2 y3 y4
      have HJ := Lib.hid (show j + 1 + (gk - 1) = n ∧ gk - 1 < gk by omega)
      have HJ9 := Lib.hid (show j < 150 by have := HK.out; omega)
      have hj9 : j ≤ 150 := by have := HK.out; omega
      obtain ⟨xb, hxb⟩ : ∃ x, x = wr.heap.size := ⟨_, rfl⟩
      obtain ⟨c6, hc6, t6⟩ := ((Stp.refl (fun _ => False) c5 wr).alloc (.cells #[.int .i64 kd, .int .i64 xa, .int .i64 xb0, .int .i64 xat, .int .i64 xhi] 91) 0).name
      have X6 := Lib.hid (show Blk c6 0 (wr.alloc (.cells #[.int .i64 kd, .int .i64 xa, .int .i64 xb0, .int .i64 xat, .int .i64 xhi] 91)) xb [.int .i64 kd, .int .i64 xa, .int .i64 xb0, .int .i64 xat, .int .i64 xhi] 91 by rw [hc6.out, hxb]; exact Blk.new c5 0 wr _ _)
      have J6 := Lib.hid (J5.out.stpF t6.out)
      have T6 := Lib.hid (T5.out.trans (t6.out.mono (fun _ h => h.elim)))
      clear hc6 t6 J5 T5 hj
      go_upto_region 9 with fail
      rw [← hxb]
      generalize wr.alloc (.cells #[.int .i64 kd, .int .i64 xa, .int .i64 xb0, .int .i64 xat, .int .i64 xhi] 91) = w6 at X6 J6 T6 ⊢
      clear hxb y0 y1 y2 y3 y4
      obtain ⟨x0, x1, x2, x3, x4, lx⟩ := ro_blk X6.out
      go_wp2_with fail
      refine (do14_any J6.out HJ9.out ⟨kd, xa, xb0, xat, xhi⟩ HSX.out).mono ?_
      rintro e w7 ⟨rfl, c7, t7, j7⟩
      have T7 := Lib.hid (T6.out.trans t7)
      have J7 := Lib.hid j7
      clear t7 j7 J6 T6 X6 x0 x1 x2 x3 x4 lx
      go_wp2
      go_roundg (gk - 1)
      case rel => exact ⟨j + 1, c7, by go_num, HJ.out.1, J7, T7⟩
      case measure => exact HJ.out.2
    · have g4 : decide ((j : Int) < (n : Int)) = false := by simp; omega
      have TD := Lib.hid J5.out.tabdeb
      have HJN := Lib.hid (show j ≤ 150 by have := HK.out; omega)
      obtain ⟨ar, ck, tb, tp, la, now, tl, dl, l, D, ao, cap, ro, rcap, R, h5⟩ := J5.out
      have H5 := Lib.hid h5
      obtain ⟨N, hN⟩ : ∃ N, N = l.length := ⟨_, rfl⟩
      have HN := Lib.hid hN
      clear hj J5 h5 hN
      go_wp2_with fail
      refine (rmact_c H5.out.code.rm).mono ?_
      rintro e wz ⟨rfl, rfl⟩
      go_wp2_with fail
      refine (alen_any H5.out.code.rm.ta).mono ?_
      rintro e wz ⟨rfl, rfl⟩
      rw [← HN.out]
      go_wp2_with fail
      refine (rrings_c H5.out.code).mono ?_
      rintro e wz ⟨rfl, rfl⟩
      obtain ⟨Q, hQ⟩ : ∃ Q, Q = D.length := ⟨_, rfl⟩
      have HQ := Lib.hid hQ
      rw [← hQ]
      clear hQ
      by_cases hq : Q = 0
      · subst hq
        go_wp2_with fail
        refine (awake14k 2 (by decide) c5 _ TD.out.1 TD.out.2).mono ?_
        rintro e w9 ⟨rfl, c9, s9⟩
        have S9 := Lib.hid (T5.out.trans (s9.mono (fun j hj => by omega)))
        clear s9 T5
        go_wp2
        go_ret
        exact ⟨rfl, (fin1 S9.out).fin⟩
      · have q1 : ((Q : Int) == 0) = false := by simp; omega
        have q2 : (Q == 0) = false := by simpa using hq
        by_cases hn : N = 0
        · have HNZ := Lib.hid hn
          have n1 : ((N : Int) == 0) = true := by simp; omega
          have n2 : (N == 0) = true := by simpa using hn
          go_wp2_with fail
          refine (awake14k 2 (by decide) c5 _ TD.out.1 TD.out.2).mono ?_
          rintro e w9 ⟨rfl, c9, s9⟩
          have S9 := Lib.hid (T5.out.trans (s9.mono (fun j hj => by omega)))
          clear s9 T5
          go_wp2
          go_ret
          exact ⟨rfl, (fin1 S9.out).fin⟩
        · have n1 : ((N : Int) == 0) = false := by simp; omega
          have n2 : (N == 0) = false := by simpa using hn
          have HNP := Lib.hid (show 0 < N by omega)
          have hd0 : ∃ d, D[0]? = some d := ⟨D[0]'(by have := HQ.out; omega), List.getElem?_eq_getElem _⟩
          obtain ⟨d, hd⟩ := hd0
          have NS5 := Lib.hid (show NS c5 wr r N ar ck tb la now tl l D ao cap d from ⟨H5.out.code, hd, H5.out.law.wr 0 d hd, HN.out.symm, by have := H5.out.law.l64; have := HN.out; omega, H5.out.law.tllen, H5.out.law.wk.mono (by have := HJN.out; omega), H5.out.law.st⟩)
          clear hd H5
          go_wp2
          clear n1 n2 q1 q2 hq g4 hlt
          go_loopg [64] m (fun gh iv wr => ∃ (j : Nat) (c5 : Nat → Nat) (D : List RD) (d : RD), iv = .int .i64 j ∧ j + gh = m ∧ Hid (NS c5 wr r N ar ck tb la now tl l D ao cap d) ∧ Hid (Stp (1 ≤ ·) (fun _ => 0) c5 w wr))
          case atStart => exact ⟨0, c5, D, d, rfl, by omega, NS5, T5⟩
          case round =>
            clear NS5 T5 HQ TD HJN
            obtain ⟨j, c5, D, d, rfl, hj, NS5, T5⟩ := hrel
            by_cases hlt : j < m
            · have hjl : j < ks.length := by rw [HWL.out]; exact hlt
              obtain ⟨a, ha, y0⟩ := (HWI.out.stp T5.out (by decide)).ints (j := j) hlt
              subst ha
              have HKR := Lib.hid (HWR.out (ks.getD j 0) (by simp [List.getD, hjl]))
              obtain ⟨kv, hkv⟩ : ∃ kv, kv = ks.getD j 0 := ⟨_, rfl⟩
              rw [← hkv] at y0 HKR
              have F1 : wrap64 kv = kv := IntWalk.wrap64_in _ (by have := HKR.out; constructor <;> omega)
              obtain ⟨q, hq⟩ : ∃ q, q = kv % (N : Int) := ⟨_, rfl⟩
              have hq0 := Int.emod_nonneg kv (show (N : Int) ≠ 0 by have := HNP.out; omega)
              have hq1 := Int.emod_lt_of_pos kv (show (0 : Int) < (N : Int) by have := HNP.out; omega)
              have F2 : kv.tmod (N : Int) = q := by rw [hq]; exact Int.tmod_eq_emod_of_nonneg HKR.out.1
              have F3 : wrap64 q = q := IntWalk.wrap64_in _ (by have := NS5.out.l64; constructor <;> omega)
              have F4 : IntKind.i64.wrap q = q := (IntWalk.i64_left _).trans F3
              have F5 : IntKind.i64.wrap kv = kv := (IntWalk.i64_left _).trans F1
              have mN : ¬ N = 0 := hn
              have HJ := Lib.hid (show j + 1 + (gk - 1) = m ∧ gk - 1 < gk by omega)
              have hj9 : j ≤ 30 := by have := HM.out; omega
              clear hj hjl hkv hq hq0 hq1
              go_wp2_with fail
              refine (renlist_any NS5.out.rm (i := 0) NS5.out.d0 q (by have := NS5.out.wlen; omega)).mono ?_
              rintro e w6 ⟨ev, rfl, wo', wcap', c6, t6, m6, e6⟩
              have h0 : 0 < D.length := (List.getElem?_eq_some_iff.1 NS5.out.d0).1
              have NS6 := Lib.hid (show NS c6 w6 r N ar ck tb la now tl l (D.set 0 { d with wl := (enlT l d.wl q).1, wo := wo', wcap := wcap' }) ao cap { d with wl := (enlT l d.wl q).1, wo := wo', wcap := wcap' } from ⟨m6, List.getElem?_set_self h0, enl_wl NS5.out.wl q, NS5.out.ln, NS5.out.l64, NS5.out.t64, NS5.out.wk, NS5.out.st⟩)
              have T6 := Lib.hid (T5.out.trans (t6.mono (fun j hj => by unfold kb at hj; omega)))
              clear t6 m6 e6 h0 NS5 T5 F1 F2 F3 F4 F5 mN y0
              go_wp2
              go_roundg (gk - 1)
              case rel => exact ⟨j + 1, c6, _, _, by go_num, HJ.out.1, NS6, T6⟩
              case measure => exact HJ.out.2
            · have g4 : decide ((j : Int) < (m : Int)) = false := by simp; omega
              clear hj
              go_wp2_with fail
              refine (rwaiting_c NS5.out.rm (i := 0) NS5.out.d0 14 (by have := NS5.out.wlen; omega)).mono ?_
              rintro e w6 ⟨lo, lcap, rfl, c6, t6, row6⟩
              obtain ⟨L, hL⟩ : ∃ L, L = d.wl := ⟨_, rfl⟩
              obtain ⟨M, hM⟩ : ∃ M, M = d.wl.length := ⟨_, rfl⟩
              have HL := Lib.hid (show L = d.wl ∧ M = L.length ∧ M ≤ 64 ∧ L.Nodup ∧ OnesOK l L from ⟨hL, by rw [hL, hM], by rw [hM]; exact NS5.out.wlen, by rw [hL]; exact NS5.out.wl.1, by rw [hL]; exact NS5.out.wl.2⟩)
              rw [← hM, ← hL] at row6
              rw [← hM]
              have I6 := Lib.hid row6.toIn
              have NS6 := Lib.hid (show NS c6 w6 r N ar ck tb la now tl l D ao cap d from { NS5.out with rm := NS5.out.rm.stpF t6 })
              have T6 := Lib.hid (T5.out.trans (t6.mono (fun _ h => h.elim)))
              clear t6 row6 hL hM NS5 T5
              go_wp2
              clear g4 hlt
              go_loopg [13, 14, 79] M (fun gh pv wv iv wr => ∃ (j : Nat) (so : Option Addr) (scap : Nat) (c6 : Nat → Nat), pv = .int .i64 (cntP l L j : Int) ∧ wv = .slice so j scap ∧ iv = .int .i64 j ∧ j + gh = M ∧ Hid (Row c6 15 wr 94 1 so j scap (((L.take j).map (fun a => (oneAt l a).state)).map (Value.int .i64))) ∧ Hid (NS c6 wr r N ar ck tb la now tl l D ao cap d) ∧ Hid (In c6 14 wr 1 lo M lcap (L.map (Value.int .i64))) ∧ Hid (Stp (1 ≤ ·) (fun _ => 0) c6 w wr))
              case atStart => exact ⟨0, none, 0, c6, rfl, rfl, rfl, by omega, Lib.hid (Row.nil _ _ _ _ _), NS6, I6, T6⟩
              case round =>
                clear NS6 I6 T6
                obtain ⟨j, so, scap, c6, rfl, rfl, rfl, hj, RW, NS6, I6, T6⟩ := hrel
                by_cases hlt : j < M
                · have hjl : j < L.length := by rw [← HL.out.2.1]; exact hlt
                  obtain ⟨a, ha, y0⟩ := I6.out.ints (j := j) hlt
                  subst ha
                  obtain ⟨b0, hb0⟩ : ∃ b0, L[j]? = some b0 := ⟨_, List.getElem?_eq_getElem hjl⟩
                  have hgb : L.getD j 0 = b0 := by unfold List.getD; rw [hb0]; rfl
                  rw [hgb] at y0
                  have hbr := HL.out.2.2.2.2 b0 (List.mem_of_getElem? hb0)
                  have HCN := Lib.hid (cntP_succ (l := l) hb0)
                  obtain ⟨b, rfl⟩ := Int.eq_ofNat_of_zero_le hbr.1
                  have HX := Lib.hid (one_get hbr).1
                  have HTK := Lib.hid (show (L.take (j + 1)).map (fun a => (oneAt l a).state) = (L.take j).map (fun a => (oneAt l a).state) ++ [(oneAt l (b : Int)).state] by rw [List.take_add_one, hb0]; simp)
                  obtain ⟨x, hx⟩ : ∃ x, x = oneAt l (b : Int) := ⟨_, rfl⟩
                  have hbn : ((b : Int)).toNat = b := by omega
                  rw [← hx] at HX HTK HCN
                  rw [hbn] at HX
                  obtain ⟨P, hP⟩ : ∃ P, P = cntP l L j := ⟨_, rfl⟩
                  rw [← hP] at HCN ⊢
                  have HP := Lib.hid (show P ≤ 64 by have := cntP_le l L j; have := HL.out; omega)
                  have hj9 : j ≤ 64 := by have := HL.out; omega
                  have d1 : Hid (j + 1 ≤ maxLen) := Lib.hid (by unfold maxLen; omega)
                  have d2 : Hid ((j + 1) * 8 ≤ 140737488355328) := Lib.hid (by omega)
                  have HJ := Lib.hid (show j + 1 + (gk - 1) = M ∧ gk - 1 < gk by omega)
                  clear hj hjl hgb hbr hb0 hx hbn hP
                  go_wp2_with fail
                  refine (rmact_c NS6.out.rm.rm).mono ?_
                  rintro e wz ⟨rfl, rfl⟩
                  go_wp2_with fail
                  refine (astate_in NS6.out.rm.rm.ta b HX.out).mono ?_
                  rintro e wz ⟨rfl, rfl⟩
                  obtain ⟨sv, hsv⟩ : ∃ sv, sv = x.state := ⟨_, rfl⟩
                  have HSV := Lib.hid hsv
                  rw [← hsv] at HTK HCN ⊢
                  clear hsv
                  go_wp2_with (at_builtin; refine wpList_append_row _ rfl (.tmp 83) (.tmp 88) 93 rfl (paint c6 wr.heap.size 15) 15 94 (.int .i64 0) 1 8 Tryz.underlying93 Tryz.infoStateN rfl so j scap (((L.take j).map (fun a => (oneAt l a).state)).map (Value.int .i64)) rfl (RW.out.alloc _ _) (.slice (some ⟨wr.heap.size, 0, none⟩) 1 1) 1 [.int .i64 sv] rfl (Src.new wr 1 1 [.int .i64 sv] 94 rfl) (by simp [Value.oneCell']) d1.out d2.out ?_)
                  intro so2 scap2 w8 r8 st8 _
                  obtain ⟨c8, hc8, t8⟩ := (((Stp.refl (· = 15) c6 wr).alloc (.cells #[.int .i64 sv] 94) 15).trans st8).name
                  rw [← hc8.out] at r8
                  have RW8 := Lib.hid (show Row c8 15 w8 94 1 so2 (j + 1) scap2 (((L.take (j + 1)).map (fun a => (oneAt l a).state)).map (Value.int .i64)) by rw [HTK.out, List.map_append]; simpa using r8)
                  have NS8 := Lib.hid (show NS c8 w8 r N ar ck tb la now tl l D ao cap d from { NS6.out with rm := NS6.out.rm.stpD t8.out (fun j hj => by omega) })
                  have I8 := Lib.hid (I6.out.stp t8.out (by decide))
                  have T8 := Lib.hid (T6.out.trans (t8.out.mono (fun j hj => by omega)))
                  clear r8 st8 hc8 t8 RW NS6 I6 T6 y0
                  go_wp2_with fail
                  refine (rmact_c NS8.out.rm.rm).mono ?_
                  rintro e wz ⟨rfl, rfl⟩
                  go_wp2_with fail
                  refine (astate_in NS8.out.rm.rm.ta b HX.out).mono ?_
                  rintro e wz ⟨rfl, rfl⟩
                  rw [← HSV.out]
                  by_cases h1 : sv = 1
                  · subst h1
                    have W1 : wrap64 ((P : Int) + 1) = ((P + 1 : Nat) : Int) := by rw [IntWalk.wrap64_in _ (by have := HP.out; constructor <;> omega)]; omega
                    have HCN2 := Lib.hid (show cntP l L (j + 1) = P + 1 by rw [HCN.out, if_pos rfl])
                    go_wp2
                    go_roundg (gk - 1)
                    case rel => exact ⟨j + 1, so2, scap2, c8, by rw [HCN2.out]; first | rw [W1] | (simp only [W1]), rfl, by go_num, HJ.out.1, RW8, NS8, I8, T8⟩
                    case measure => exact HJ.out.2
                  · have g1 : (sv == 1) = false := by simpa using h1
                    have HCN2 := Lib.hid (show cntP l L (j + 1) = P by rw [HCN.out, if_neg h1]; rfl)
                    go_wp2
                    go_roundg (gk - 1)
                    case rel => exact ⟨j + 1, so2, scap2, c8, by rw [HCN2.out], rfl, by go_num, HJ.out.1, RW8, NS8, I8, T8⟩
                    case measure => exact HJ.out.2
                · obtain rfl : j = M := by omega
                  have g4 : decide ((j : Int) < (j : Int)) = false := by simp
                  have hfull : L.take j = L := List.take_of_length_le (by have := HL.out.2.1; omega)
                  obtain ⟨z1, z2⟩ := sig_ones L tl l 0 HL.out.2.2.2.1 HL.out.2.2.2.2
                  have HZ1 := Lib.hid z1
                  have HCNT := Lib.hid (show ((sigT L tl l 0).2.2 : Int) = (cntP l L j : Int) by rw [z2]; unfold cntP; rw [hfull]; omega)
                  have RW2 := Lib.hid (show In c6 15 wr 1 so j scap ((L.map (fun a => (oneAt l a).state)).map (Value.int .i64)) by have := RW.out.toIn; rw [hfull] at this; exact this)
                  have HKL := Lib.hid (show (sigT L tl l 0).2.1.length = N by rw [(sig_keeps L tl l 0).1]; exact NS6.out.ln)
                  have HDW := Lib.hid HL.out.1
                  clear hj RW z1 z2 hfull
                  go_wp2_with fail
                  refine (rsignal_any NS6.out.rm (i := 0) NS6.out.d0 (B := 150000) NS6.out.wk (by decide) (by have := NS6.out.wlen; omega) (by have := NS6.out.t64; omega)).mono ?_
                  rintro e w7 ⟨rfl, c7, t7, m7⟩
                  rw [← HDW.out] at m7 ⊢
                  rw [HCNT.out]
                  have M7 := Lib.hid m7
                  have RW7 := Lib.hid (RW2.out.stp t7 (by unfold JR kb; omega))
                  have I7 := Lib.hid (I6.out.stp t7 (by unfold JR kb; omega))
                  have T7 := Lib.hid (T6.out.trans (t7.mono (fun j hj => by have := (sj_col hj).1; omega)))
                  have h0 : 0 < D.length := (List.getElem?_eq_some_iff.1 NS6.out.d0).1
                  have D7 := Lib.hid (show (D.set 0 { d with wl := [], wo := none, wcap := 0 })[0]? = some { d with wl := [], wo := none, wcap := 0 } from List.getElem?_set_self h0)
                  obtain ⟨tl7, htl7⟩ : ∃ t, t = (sigT L tl l 0).1 := ⟨_, rfl⟩
                  obtain ⟨l7, hl7⟩ : ∃ t, t = (sigT L tl l 0).2.1 := ⟨_, rfl⟩
                  obtain ⟨DD, hDD⟩ : ∃ t, t = D.set 0 { d with wl := [], wo := none, wcap := 0 } := ⟨_, rfl⟩
                  rw [← htl7, ← hl7, ← hDD] at M7
                  rw [← hl7] at HZ1 HKL
                  rw [← hDD] at D7
                  have HST := Lib.hid NS6.out.st
                  have HLE := Lib.hid NS6.out.ln
                  clear m7 t7 h0 NS6 I6 T6 RW2 htl7 hl7 hDD HCNT
                  go_wp2_with fail
                  refine (rwaiting_c M7.out (i := 0) D7.out 16 (Nat.zero_le _)).mono ?_
                  rintro e w8 ⟨lo8, lcap8, rfl, c8, t8, -⟩
                  have M8 := Lib.hid (M7.out.stpF t8)
                  have RW8 := Lib.hid (RW7.out.stp t8 id)
                  have I8 := Lib.hid (I7.out.stp t8 id)
                  have T8 := Lib.hid (T7.out.trans (t8.mono (fun _ h => h.elim)))
                  have HLJ := Lib.hid (And.intro HL.out.2.1 (And.intro HL.out.2.2.1 (And.intro HL.out.2.2.2.1 HL.out.2.2.2.2)))
                  have HZ2 := Lib.hid (show ∀ m a, 0 ≤ m → L[m]? = some a → oneAt l7 a = wokenT (oneAt l a) from fun m a _ ha => by rw [HZ1.out a ((HLJ.out.2.2.2 a (List.mem_of_getElem? ha)).1), if_pos (List.mem_of_getElem? ha)])
                  clear t8 M7 RW7 I7 T7 D7 HZ1 HL HDW
                  go_wp2
                  clear g4 hlt
                  obtain ⟨M, hM⟩ : ∃ M, M = j := ⟨_, rfl⟩
                  rw [← hM] at RW8 I8 HLJ ⊢
                  clear hM
                  go_loopg [118] M (fun gh iv wr => ∃ (i : Nat) (lj : List One) (c9 : Nat → Nat), iv = .int .i64 i ∧ i + gh = M ∧ Hid (RMs c9 300 wr r ar ck tb la now tl7 lj DD ao cap) ∧ Hid (lj.length = N ∧ ∀ m a, i ≤ m → L[m]? = some a → oneAt lj a = wokenT (oneAt l a)) ∧ Hid (In c9 15 wr 1 so M scap ((L.map (fun a => (oneAt l a).state)).map (Value.int .i64))) ∧ Hid (In c9 14 wr 1 lo M lcap (L.map (Value.int .i64))) ∧ Hid (Stp (1 ≤ ·) (fun _ => 0) c9 w wr))
                  case atStart => exact ⟨0, l7, c8, rfl, by omega, M8, Lib.hid ⟨HKL.out, HZ2.out⟩, RW8, I8, T8⟩
                  case round =>
                    clear M8 HZ2 RW8 I8 T8 HKL
                    obtain ⟨i, lj, c9, rfl, hi, M9, HZ, RW9, I9, T9⟩ := hrel
                    by_cases hlt : i < M
                    · have hil : i < L.length := by rw [← HLJ.out.1]; exact hlt
                      obtain ⟨a, ha, y0⟩ := I9.out.ints (j := i) hlt
                      subst ha
                      obtain ⟨b0, hb0⟩ : ∃ b0, L[i]? = some b0 := ⟨_, List.getElem?_eq_getElem hil⟩
                      have hgb : L.getD i 0 = b0 := by unfold List.getD; rw [hb0]; rfl
                      rw [hgb] at y0
                      have hbr := HLJ.out.2.2.2 b0 (List.mem_of_getElem? hb0)
                      obtain ⟨a2, ha2, z0⟩ := RW9.out.ints (j := i) hlt
                      subst ha2
                      have hgs : (L.map (fun a => (oneAt l a).state)).getD i 0 = (oneAt l b0).state := by unfold List.getD; rw [List.getElem?_map, hb0]; rfl
                      rw [hgs] at z0
                      obtain ⟨b, rfl⟩ := Int.eq_ofNat_of_zero_le hbr.1
                      have hbn : ((b : Int)).toNat = b := by omega
                      have hbj : (0 : Int) ≤ (b : Int) ∧ (b : Int) < lj.length := by rw [HZ.out.1, ← HLE.out]; exact hbr
                      have hY := (one_get hbj).1
                      rw [hbn, HZ.out.2 i (b : Int) (Nat.le_refl _) hb0] at hY
                      have hxs := HST.out _ (List.mem_of_getElem? (one_get hbr).1)
                      obtain ⟨x, hx⟩ : ∃ x, x = oneAt l (b : Int) := ⟨_, rfl⟩
                      rw [← hx] at z0 hY hxs
                      obtain ⟨y, hy⟩ : ∃ y, y = wokenT x := ⟨_, rfl⟩
                      rw [← hy] at hY
                      have HY := Lib.hid hY
                      have HB := Lib.hid hb0
                      have HBJ := Lib.hid hbj
                      have hj9 : i ≤ 64 := by have := HLJ.out.2.1; omega
                      have HJ := Lib.hid (show i + 1 + (gk - 1) = M ∧ gk - 1 < gk by omega)
                      have HZ3 := Lib.hid (show lj.length = N ∧ ∀ m a, i + 1 ≤ m → L[m]? = some a → oneAt lj a = wokenT (oneAt l a) from ⟨HZ.out.1, fun m a hm ha => HZ.out.2 m a (by omega) ha⟩)
                      clear hi hil hgb hbr hb0 hgs hbn hbj hY
                      go_wp2_with fail
                      refine (rmact_c M9.out.rm).mono ?_
                      rintro e wz ⟨rfl, rfl⟩
                      go_wp2_with fail
                      refine (astate_in M9.out.rm.ta b HY.out).mono ?_
                      rintro e wz ⟨rfl, rfl⟩
                      rcases hxs with h0 | h1 | h2
                      · have hys : y.state = 0 ∧ y.token = true := by
                          rw [hy]; unfold wokenT
                          rw [if_neg (by omega), if_neg (by omega)]
                          exact ⟨h0, rfl⟩
                        rw [hys.1]
                        rw [h0] at z0
                        have HYS := Lib.hid hys
                        clear hys hy hx h0
                        go_wp2_with fail
                        refine (rmact_c M9.out.rm).mono ?_
                        rintro e wz ⟨rfl, rfl⟩
                        go_wp2_with fail
                        refine (atoken_in M9.out.rm.ta b HY.out).mono ?_
                        rintro e wz ⟨rfl, rfl⟩
                        rw [HYS.out.2]
                        go_wp2_with fail
                        refine (rmpark_tok M9.out.rm HY.out (by rw [HYS.out.1]; decide) HYS.out.2 0 (by decide) (by decide) (.inl rfl)).mono ?_
                        rintro e w10 ⟨rfl, c10, t10, m10⟩
                        have M10 := Lib.hid (M9.out.go t10 m10)
                        have RW10 := Lib.hid (RW9.out.stp t10 (by unfold JR; omega))
                        have I10 := Lib.hid (I9.out.stp t10 (by unfold JR; omega))
                        have T10 := Lib.hid (T9.out.trans (t10.mono (fun j hj => by have := jr_col hj; omega)))
                        have HLT := Lib.hid (show b < lj.length by have := HBJ.out; omega)
                        have HY2 := Lib.hid (show (lj.set b { y with token := false })[b]? = some { y with token := false } from List.getElem?_set_self HLT.out)
                        clear t10 m10 M9 RW9 I9 T9 y0 z0
                        go_wp2_with fail
                        refine (rmpark0_c M10.out.rm HY2.out (by show y.state ≠ 2; rw [HYS.out.1]; decide) rfl).mono ?_
                        rintro e w11 ⟨rfl, c11, t11, m11⟩
                        have M11 := Lib.hid (M10.out.go t11 m11)
                        have RW11 := Lib.hid (RW10.out.stp t11 (by unfold JR; omega))
                        have I11 := Lib.hid (I10.out.stp t11 (by unfold JR; omega))
                        have T11 := Lib.hid (T10.out.trans (t11.mono (fun j hj => by have := jr_col hj; omega)))
                        have HZ4 := Lib.hid (show ((lj.set b { y with token := false }).set b { state := 1, token := false, wakes := y.wakes }).length = N ∧ ∀ m a, i + 1 ≤ m → L[m]? = some a → oneAt ((lj.set b { y with token := false }).set b { state := 1, token := false, wakes := y.wakes }) a = wokenT (oneAt l a) from ⟨by rw [List.length_set, List.length_set]; exact HZ3.out.1, fun m a hm ha => by
                          have hne := nodup_ne HLJ.out.2.2.1 HB.out ha (by omega)
                          have ha0 := (HLJ.out.2.2.2 a (List.mem_of_getElem? ha)).1
                          have hbn : ((b : Int)).toNat = b := by omega
                          have e1 := oneAt_set (l := lj.set b { y with token := false }) (a := (b : Int)) (b := a) (by rw [List.length_set]; exact HBJ.out) ha0 { state := 1, token := false, wakes := y.wakes }
                          have e2 := oneAt_set (l := lj) (a := (b : Int)) (b := a) HBJ.out ha0 { y with token := false }
                          rw [hbn, if_neg (Ne.symm hne)] at e1 e2
                          rw [e1, e2]
                          exact HZ3.out.2 m a hm ha⟩)
                        clear t11 m11 M10 RW10 I10 T10
                        go_wp2
                        go_roundg (gk - 1)
                        case rel => exact ⟨i + 1, _, c11, by go_num, HJ.out.1, M11, HZ4, RW11, I11, T11⟩
                        case measure => exact HJ.out.2
                      · have hys : y.state = 0 := by
                          rw [hy]; unfold wokenT
                          rw [if_neg (by omega), if_pos h1]
                        rw [hys]
                        rw [h1] at z0
                        clear hys hy hx h1
                        go_wp2
                        go_roundg (gk - 1)
                        case rel => exact ⟨i + 1, lj, c9, by go_num, HJ.out.1, M9, HZ3, RW9, I9, T9⟩
                        case measure => exact HJ.out.2
                      · have hys : y.state = 2 := by
                          rw [hy]; unfold wokenT
                          rw [if_pos h2]
                          exact h2
                        rw [hys]
                        rw [h2] at z0
                        clear hys hy hx h2
                        go_wp2
                        go_roundg (gk - 1)
                        case rel => exact ⟨i + 1, lj, c9, by go_num, HJ.out.1, M9, HZ3, RW9, I9, T9⟩
                        case measure => exact HJ.out.2
                    · have g4 : decide ((i : Int) < (M : Int)) = false := by simp; omega
                      clear hi
                      go_wp2_with fail
                      refine (awake14k 2 (by decide) c9 _ (HT.out.stp T9.out (by decide)) (T9.out.col _ (World.block_lt_of_cell? w _ (HT.out 0 (by decide))))).mono ?_
                      rintro e w12 ⟨rfl, c12, s12⟩
                      have S12 := Lib.hid (T9.out.trans (s12.mono (fun j hj => by omega)))
                      clear s12 T9
                      go_wp2
                      go_ret
                      exact ⟨rfl, (fin1 S12.out).fin⟩

set_option maxRecDepth 100000 in
theorem rnews_out (oo : Option Addr) (n ocap : Nat) (ops : List RO) (wo : Option Addr) (m wcap : Nat) (w : World) (ho : In (fun _ => 0) 0 w 5 oo n ocap (ops.flatMap RO.cells)) (hl : ops.length = n) (hs : smallT ops = false ∨ (smallT ops = true ∧ 30 < m)) (ht : Tab w) :
    Calls Tryz.prog 5 #[.slice oo n ocap, .slice wo m wcap] w fun e w' => e = .returned (.bool true) ∧ Below w.heap.size w w' := by
  have HO := Lib.hid ho
  have HLN := Lib.hid hl
  have HT := Lib.hid ht
  clear ho hl ht
  rcases hs with h1 | ⟨h1, h2⟩
  · have HSM := Lib.hid h1
    clear h1
    go_enter Tryz.func5, Tryz.ntmps5
    go_wp2_with fail
    refine (small14_c HO.out HLN.out).mono ?_
    rintro e w1 ⟨rfl, c1, t1⟩
    rw [HSM.out]
    have T1 := Lib.hid (t1.mono (J' := (1 ≤ ·)) (fun _ h => h.elim))
    clear t1
    go_wp2_with fail
    refine (awake14k 2 (by decide) c1 _ (HT.out.stp T1.out (by decide)) (T1.out.col _ (World.block_lt_of_cell? w _ (HT.out 0 (by decide))))).mono ?_
    rintro e w9 ⟨rfl, c9, s9⟩
    have S9 := Lib.hid (T1.out.trans (s9.mono (fun j hj => by omega)))
    clear s9 T1
    go_wp2
    go_ret
    exact ⟨rfl, (fin1 S9.out).fin⟩
  · have HSM := Lib.hid h1
    have gm : decide ((30 : Int) < (m : Int)) = true := by simp; omega
    clear h1
    go_enter Tryz.func5, Tryz.ntmps5
    go_wp2_with fail
    refine (small14_c HO.out HLN.out).mono ?_
    rintro e w1 ⟨rfl, c1, t1⟩
    rw [HSM.out]
    have T1 := Lib.hid (t1.mono (J' := (1 ≤ ·)) (fun _ h => h.elim))
    clear t1
    go_wp2_with fail
    refine (awake14k 2 (by decide) c1 _ (HT.out.stp T1.out (by decide)) (T1.out.col _ (World.block_lt_of_cell? w _ (HT.out 0 (by decide))))).mono ?_
    rintro e w9 ⟨rfl, c9, s9⟩
    have S9 := Lib.hid (T1.out.trans (s9.mono (fun j hj => by omega)))
    clear s9 T1
    go_wp2
    go_ret
    exact ⟨rfl, (fin1 S9.out).fin⟩
theorem rnews_walk (oo : Option Addr) (n ocap : Nat) (ops : List RO) (wo : Option Addr) (m wcap : Nat) (ks : List Int) (w : World) (ho : In (fun _ => 0) 0 w 5 oo n ocap (ops.flatMap RO.cells)) (hl : ops.length = n) (hw : In (fun _ => 0) 0 w 1 wo m wcap (ks.map (Value.int .u8))) (hr : ∀ x ∈ ks, 0 ≤ x ∧ x ≤ 255) (ht : Tab w) :
    Calls Tryz.prog 5 #[.slice oo n ocap, .slice wo m wcap] w fun e w' => e = .returned (.bool true) ∧ Below w.heap.size w w' := by
  rcases hs : smallT ops with _ | _
  · exact rnews_out oo n ocap ops wo m wcap w ho hl (.inl hs) ht
  · by_cases hm : m ≤ 30
    · exact rnews_in oo n ocap ops wo m wcap ks w ho hl hw hr hs hm ht
    · exact rnews_out oo n ocap ops wo m wcap w ho hl (.inr ⟨hs, by omega⟩) ht
theorem dec_ro {H : Type} {enc : TypeId × Value → H} {w : World} {base : Nat} {spare : Nat → Bool} {held : Bool} (n : Nat) (cs : List Value) (y : DataW H × List MemPlace) (h : DataW.trod enc Tryz.prog w base spare held n 91 cs = some y) : ∃ x : RO, cs = x.cells ∧ x.ok := by
  obtain ⟨hl, n', hf⟩ := dec_fields Tryz.underlying91 (by kernel_rfl) (by kernel_rfl) h
  obtain ⟨v0, z0, c0, t0⟩ := hf 0 _ rfl
  obtain ⟨v1, z1, c1, t1⟩ := hf 1 _ rfl
  obtain ⟨v2, z2, c2, t2⟩ := hf 2 _ rfl
  obtain ⟨v3, z3, c3, t3⟩ := hf 3 _ rfl
  obtain ⟨v4, z4, c4, t4⟩ := hf 4 _ rfl
  obtain ⟨x0, e0, _, w0⟩ := DataW.trod_int Tryz.underlying3 t0
  obtain ⟨x1, e1, _, w1⟩ := DataW.trod_int Tryz.underlying3 t1
  obtain ⟨x2, e2, _, w2⟩ := DataW.trod_int Tryz.underlying3 t2
  obtain ⟨x3, e3, _, w3⟩ := DataW.trod_int Tryz.underlying2 t3
  obtain ⟨x4, e4, _, w4⟩ := DataW.trod_int Tryz.underlying2 t4
  match cs, hl with
  | [a, b, c, d, e], _ =>
    simp at c0 c1 c2 c3 c4 e0 e1 e2 e3 e4
    subst c0 c1 c2 c3 c4 e0 e1 e2 e3 e4
    exact ⟨⟨x0, x1, x2, x3, x4⟩, rfl, bounds_i64 w0, bounds_i64 w1, bounds_i64 w2, bounds_i64 w3, bounds_i64 w4⟩
end Go.Proofs.YtiphdedfbafhkaaGreatDoor
