/- Publish, Highest, Claimed of a sequencer; a sequencer that is none. No condition beyond each contract's own. -/
import Derived.Test.YtoifknfmamcimaaDoorMul7
namespace Go.Proofs.YtoifknfmamcimaaDoor
open Go.RowKit

/-- A sequencer and its arena, part of the way. -/
structure PAt (c0 : Nat → Nat) (w0 : World) (K p q bp gp : Nat) (S : Sq) (la : List Int) (c : Nat → Nat) (w : World) : Prop where
  st : Stp (· = K) c0 c w0 w
  ar : ArenaS c K w q la
  sq : SeqIs c (K + 1) w p q bp gp S

section
variable {c0 : Nat → Nat} {w0 : World} {K p q bp gp : Nat} {S : Sq} {la la' : List Int} {c c' : Nat → Nat} {w w' : World}
theorem PAt.stpF (h : PAt c0 w0 K p q bp gp S la c w) (t : Stp (fun _ => False) c c' w w') : PAt c0 w0 K p q bp gp S la c' w' :=
  ⟨h.st.trans (t.mono fun _ h => h.elim), h.ar.stp t id, h.sq.stp t id id id⟩
theorem PAt.are (h : PAt c0 w0 K p q bp gp S la c w) (t : Stp (· = K) c c' w w') (a : ArenaS c' K w' q la') : PAt c0 w0 K p q bp gp S la' c' w' :=
  ⟨h.st.trans t, a, h.sq.stp t (by omega) (by omega) (by omega)⟩
theorem PAt.load_c (h : PAt c0 w0 K p q bp gp S la c w) {v : Int} (hcu : S.cur < la.length) (hv : la.getD S.cur 0 = v) :
    Calls Tryd.prog 31 #[.pointer (some ⟨q, 0, none⟩), .int .i64 S.cur] w fun e w' => e = .returned (.tuple #[.int .i64 v, .nilIface]) ∧ ∃ c', Hid (PAt c0 w0 K p q bp gp S la c' w') ∧ (w'.cell? ⟨p, 0, none⟩ = some (.pointer (some ⟨q, 0, none⟩)) ∧ w'.cell? ⟨p, 1, none⟩ = some (.int .i64 S.sh) ∧ w'.cell? ⟨p, 2, none⟩ = some (.int .i64 S.cur) ∧ w'.cell? ⟨p, 3, none⟩ = some (.int .i64 S.cac) ∧ w'.cell? ⟨p, 4, none⟩ = some (.pointer (some ⟨bp, 0, none⟩)) ∧ w'.cell? ⟨p, 5, none⟩ = some (.pointer (some ⟨gp, 0, none⟩)) ∧ p < w'.heap.size) := by
  refine (load_s h.ar S.cur hcu).mono ?_
  rintro e w' ⟨rfl, c', t, a⟩
  exact ⟨by rw [hv], c', Lib.hid (h.are t a), (h.are t a).sq.cs⟩
theorem PAt.show_c (h : PAt c0 w0 K p q bp gp S la c w) (lo hi : Int) (hl : S.first + 2 ^ S.sh ≤ la.length) (h0 : 0 ≤ lo) (h1 : lo ≤ hi) (h2 : hi ≤ 4611686018427387904) (h3 : hi - lo < 2 ^ S.sh) :
    Calls Tryd.prog 62 #[.pointer (some ⟨bp, 0, none⟩), .pointer (some ⟨q, 0, none⟩), .int .i64 lo, .int .i64 hi] w fun e w' => e = .returned .nilIface ∧ ∃ c', Hid (PAt c0 w0 K p q bp gp S (showAll la S.first S.sh lo (hi - lo + 1).toNat) c' w') ∧ (w'.cell? ⟨p, 0, none⟩ = some (.pointer (some ⟨q, 0, none⟩)) ∧ w'.cell? ⟨p, 1, none⟩ = some (.int .i64 S.sh) ∧ w'.cell? ⟨p, 2, none⟩ = some (.int .i64 S.cur) ∧ w'.cell? ⟨p, 3, none⟩ = some (.int .i64 S.cac) ∧ w'.cell? ⟨p, 4, none⟩ = some (.pointer (some ⟨bp, 0, none⟩)) ∧ w'.cell? ⟨p, 5, none⟩ = some (.pointer (some ⟨gp, 0, none⟩)) ∧ p < w'.heap.size) := by
  refine (avshow_ok h.sq.bf h.ar (by omega) hl lo hi h0 h1 h2 h3).mono ?_
  rintro e w' ⟨rfl, c', t, a⟩
  exact ⟨rfl, c', Lib.hid (h.are t a), (h.are t a).sq.cs⟩
theorem PAt.high_c (h : PAt c0 w0 K p q bp gp S la c w) (lo hi : Int) (hl : S.first + 2 ^ S.sh ≤ la.length) (h0 : 0 ≤ lo) (h1 : lo ≤ 4611686018427387904) (h2 : hi ≤ 4611686018427387904) (h3 : -9223372036854775808 ≤ hi) :
    Calls Tryd.prog 88 #[.pointer (some ⟨bp, 0, none⟩), .pointer (some ⟨q, 0, none⟩), .int .i64 lo, .int .i64 hi] w fun e w' => ∃ x, e = .returned (.tuple #[.int .i64 x, .nilIface]) ∧ HiAt la S.first S.sh lo hi x ∧ ∃ c', Hid (PAt c0 w0 K p q bp gp S la c' w') ∧ (w'.cell? ⟨p, 0, none⟩ = some (.pointer (some ⟨q, 0, none⟩)) ∧ w'.cell? ⟨p, 1, none⟩ = some (.int .i64 S.sh) ∧ w'.cell? ⟨p, 2, none⟩ = some (.int .i64 S.cur) ∧ w'.cell? ⟨p, 3, none⟩ = some (.int .i64 S.cac) ∧ w'.cell? ⟨p, 4, none⟩ = some (.pointer (some ⟨bp, 0, none⟩)) ∧ w'.cell? ⟨p, 5, none⟩ = some (.pointer (some ⟨gp, 0, none⟩)) ∧ p < w'.heap.size) := by
  refine (avhigh_ok h.sq.bf h.ar (by omega) hl lo hi h0 h1 h2 h3).mono ?_
  rintro e w' ⟨x, rfl, hx, c', t, a⟩
  exact ⟨x, rfl, hx, c', Lib.hid (h.are t a), (h.are t a).sq.cs⟩
end

section
variable {c : Nat → Nat} {K : Nat} {w : World} {p q bp gp : Nat} {S : Sq} {la : List Int}

set_option maxRecDepth 100000 in
theorem mclaimed_ok (ha : ArenaS c K w q la) (hB : SeqIs c (K + 1) w p q bp gp S) {v : Int} (hcu : S.cur < la.length) (hv : la.getD S.cur 0 = v) :
    Calls Tryd.prog 43 #[.pointer (some ⟨p, 0, none⟩)] w fun e w' => e = .returned (.int .i64 v) ∧ ∃ c', Stp (· = K) c c' w w' ∧ ArenaS c' K w' q la ∧ SeqIs c' (K + 1) w' p q bp gp S := by
  have R1 := Lib.hid (show PAt c w K p q bp gp S la c w from ⟨Stp.refl _ _ _, ha, hB⟩)
  have Hcu := Lib.hid hcu
  have Hv := Lib.hid hv
  obtain ⟨s0, s1, s2, s3, s4, s5, lp⟩ := hB.cs
  clear ha hB hcu hv
  go_enter Tryd.func43, Tryd.ntmps43
  go_upto_region 3 with fail
  go_region_held3 (fun w' => w'.cell? ⟨p, 0, none⟩ = some (.pointer (some ⟨q, 0, none⟩)) ∧ w'.cell? ⟨p, 1, none⟩ = some (.int .i64 S.sh) ∧ w'.cell? ⟨p, 2, none⟩ = some (.int .i64 S.cur) ∧ w'.cell? ⟨p, 3, none⟩ = some (.int .i64 S.cac) ∧ w'.cell? ⟨p, 4, none⟩ = some (.pointer (some ⟨bp, 0, none⟩)) ∧ w'.cell? ⟨p, 5, none⟩ = some (.pointer (some ⟨gp, 0, none⟩)))
    (first | exact ⟨by assumption, by assumption, by assumption, by assumption, by assumption, by assumption⟩ | go_keep)
    (first
      | (go_at_call 31; refine (PAt.load_c (by first | exact R1.out | exact R1.out.stpF (Stp.refl (fun _ => False) _ _).drew | exact R1.out.stpF ((Stp.refl (fun _ => False) _ _).drewN _)) (by exact Hcu.out) (by exact Hv.out)).mono ?_; rintro e w2 ⟨rfl, c2, R2, ⟨s0, s1, s2, s3, s4, s5, lp⟩⟩))
  go_wp2
  go_ret
  exact ⟨rfl, c2, R2.out.st, R2.out.ar, R2.out.sq⟩

theorem mclaimed_nil (w : World) : Calls Tryd.prog 43 #[.pointer none] w fun e w' => e = .returned (.int .i64 (-1)) ∧ w = w' := by
  go_enter Tryd.func43, Tryd.ntmps43
  go_wp2
  go_ret
  exact ⟨rfl, rfl⟩
theorem mcursor_nil (w : World) : Calls Tryd.prog 54 #[.pointer none] w fun e w' => e = .returned (.int .i64 (-1)) ∧ w = w' := by
  go_enter Tryd.func54, Tryd.ntmps54
  go_wp2
  go_ret
  exact ⟨rfl, rfl⟩
theorem mcached_nil (w : World) : Calls Tryd.prog 52 #[.pointer none] w fun e w' => e = .returned (.int .i64 (-1)) ∧ w = w' := by
  go_enter Tryd.func52, Tryd.ntmps52
  go_wp2
  go_ret
  exact ⟨rfl, rfl⟩
theorem mshown_nil (w : World) : Calls Tryd.prog 55 #[.pointer none] w fun e w' => e = .returned (.pointer none) ∧ w = w' := by
  go_enter Tryd.func55, Tryd.ntmps55
  go_wp2
  go_ret
  exact ⟨rfl, rfl⟩
theorem mgate_nil (w : World) : Calls Tryd.prog 46 #[.pointer none] w fun e w' => e = .returned (.pointer none) ∧ w = w' := by
  go_enter Tryd.func46, Tryd.ntmps46
  go_wp2
  go_ret
  exact ⟨rfl, rfl⟩
theorem mhigh_nil (lo : Int) (w : World) : Calls Tryd.prog 53 #[.pointer none, .int .i64 lo] w fun e w' => e = .returned (.tuple #[.int .i64 0, .iface 119 (.int .i64 2)]) ∧ w = w' := by
  go_enter Tryd.func53, Tryd.ntmps53
  go_wp2
  go_ret2
  exact ⟨rfl, rfl⟩
theorem mremain_nil (w : World) : Calls Tryd.prog 39 #[.pointer none] w fun e w' => e = .returned (.tuple #[.int .i64 0, .iface 119 (.int .i64 2)]) ∧ w = w' := by
  go_enter Tryd.func39, Tryd.ntmps39
  go_wp2
  go_ret2
  exact ⟨rfl, rfl⟩
theorem mpublish_nil (lo hi : Int) (w : World) : Calls Tryd.prog 26 #[.pointer none, .int .i64 lo, .int .i64 hi] w fun e w' => e = .returned (.iface 119 (.int .i64 2)) ∧ w = w' := by
  go_enter Tryd.func26, Tryd.ntmps26
  go_wp2
  go_ret
  exact ⟨rfl, rfl⟩

set_option maxRecDepth 100000 in
theorem mhigh_ok (ha : ArenaS c K w q la) (hB : SeqIs c (K + 1) w p q bp gp S) {v : Int} (hcu : S.cur < la.length) (hv : la.getD S.cur 0 = v) (lo : Int) (hl : S.first + 2 ^ S.sh ≤ la.length) (h0 : 0 ≤ lo) (h1 : lo ≤ 4611686018427387904) (h2 : v ≤ 4611686018427387904) (h3 : -9223372036854775808 ≤ v) :
    Calls Tryd.prog 53 #[.pointer (some ⟨p, 0, none⟩), .int .i64 lo] w fun e w' => ∃ x, e = .returned (.tuple #[.int .i64 x, .nilIface]) ∧ HiAt la S.first S.sh lo v x ∧ ∃ c', Stp (· = K) c c' w w' ∧ ArenaS c' K w' q la ∧ SeqIs c' (K + 1) w' p q bp gp S := by
  have R1 := Lib.hid (show PAt c w K p q bp gp S la c w from ⟨Stp.refl _ _ _, ha, hB⟩)
  have Hcu := Lib.hid hcu
  have Hv := Lib.hid hv
  have Hl := Lib.hid hl
  have H0 := Lib.hid h0
  have H1 := Lib.hid h1
  have H2 := Lib.hid h2
  have H3 := Lib.hid h3
  obtain ⟨s0, s1, s2, s3, s4, s5, lp⟩ := hB.cs
  clear ha hB hcu hv hl h0 h1 h2 h3
  go_enter Tryd.func53, Tryd.ntmps53
  go_upto_region 3 with fail
  go_region_held3 (fun w' => w'.cell? ⟨p, 0, none⟩ = some (.pointer (some ⟨q, 0, none⟩)) ∧ w'.cell? ⟨p, 1, none⟩ = some (.int .i64 S.sh) ∧ w'.cell? ⟨p, 2, none⟩ = some (.int .i64 S.cur) ∧ w'.cell? ⟨p, 3, none⟩ = some (.int .i64 S.cac) ∧ w'.cell? ⟨p, 4, none⟩ = some (.pointer (some ⟨bp, 0, none⟩)) ∧ w'.cell? ⟨p, 5, none⟩ = some (.pointer (some ⟨gp, 0, none⟩)))
    (first | exact ⟨by assumption, by assumption, by assumption, by assumption, by assumption, by assumption⟩ | go_keep)
    (first
      | (go_at_call 31; refine (PAt.load_c (by first | exact R1.out | exact R1.out.stpF (Stp.refl (fun _ => False) _ _).drew | exact R1.out.stpF ((Stp.refl (fun _ => False) _ _).drewN _)) (by exact Hcu.out) (by exact Hv.out)).mono ?_; rintro e w2 ⟨rfl, c2, R2, ⟨s0, s1, s2, s3, s4, s5, lp⟩⟩))
  go_upto_region 6 with fail
  go_region_held3 (fun w' => w'.cell? ⟨p, 0, none⟩ = some (.pointer (some ⟨q, 0, none⟩)) ∧ w'.cell? ⟨p, 1, none⟩ = some (.int .i64 S.sh) ∧ w'.cell? ⟨p, 2, none⟩ = some (.int .i64 S.cur) ∧ w'.cell? ⟨p, 3, none⟩ = some (.int .i64 S.cac) ∧ w'.cell? ⟨p, 4, none⟩ = some (.pointer (some ⟨bp, 0, none⟩)) ∧ w'.cell? ⟨p, 5, none⟩ = some (.pointer (some ⟨gp, 0, none⟩)))
    (first | exact ⟨by assumption, by assumption, by assumption, by assumption, by assumption, by assumption⟩ | go_keep)
    (first
      | (go_at_call 88; refine (PAt.high_c (by first | exact R2.out | exact R2.out.stpF (Stp.refl (fun _ => False) _ _).drew | exact R2.out.stpF ((Stp.refl (fun _ => False) _ _).drewN _)) lo v (by exact Hl.out) (by exact H0.out) (by exact H1.out) (by exact H2.out) (by exact H3.out)).mono ?_; rintro e w3 ⟨x, rfl, hx, c3, R3, ⟨s0, s1, s2, s3, s4, s5, lp⟩⟩; have HX := Lib.hid hx; clear hx))
  go_wp2
  go_ret2
  exact ⟨x, rfl, HX.out, c3, R3.out.st, R3.out.ar, R3.out.sq⟩

set_option maxRecDepth 100000 in
theorem mpublish_ok (ha : ArenaS c K w q la) (hB : SeqIs c (K + 1) w p q bp gp S) {v : Int} (hcu : S.cur < la.length) (hv : la.getD S.cur 0 = v) (lo hi : Int) (hl : S.first + 2 ^ S.sh ≤ la.length) (h0 : 0 ≤ lo) (h1 : lo ≤ hi) (h2 : hi ≤ v) (h3 : hi - lo < 2 ^ S.sh) (h4 : v ≤ 4611686018427387904) :
    Calls Tryd.prog 26 #[.pointer (some ⟨p, 0, none⟩), .int .i64 lo, .int .i64 hi] w fun e w' => e = .returned .nilIface ∧ ∃ c', Stp (· = K) c c' w w' ∧ ArenaS c' K w' q (showAll la S.first S.sh lo (hi - lo + 1).toNat) ∧ SeqIs c' (K + 1) w' p q bp gp S := by
  have R1 := Lib.hid (show PAt c w K p q bp gp S la c w from ⟨Stp.refl _ _ _, ha, hB⟩)
  have Hcu := Lib.hid hcu
  have Hv := Lib.hid hv
  have Hl := Lib.hid hl
  have H0 := Lib.hid h0
  have H1 := Lib.hid h1
  have H2 := Lib.hid (show hi ≤ 4611686018427387904 by omega)
  have H3 := Lib.hid h3
  have Hsh := Lib.hid hB.bf.1
  have t1 : decide (lo < 0) = false := by simp; omega
  have t2 : decide (hi < lo) = false := by simp; omega
  have t3 : decide (v < hi) = false := by simp; omega
  have t4 : decide ((2 : Int) ^ S.sh ≤ hi - lo) = false := by simp; omega
  have F1 := Lib.hid (show wrap64 (hi - lo) = hi - lo from IntWalk.wrap64_in _ (by constructor <;> omega))
  obtain ⟨s0, s1, s2, s3, s4, s5, lp⟩ := hB.cs
  clear ha hB hcu hv hl h0 h1 h2 h3 h4
  go_enter Tryd.func26, Tryd.ntmps26
  go_upto_region 3 with fail
  go_region_held3 (fun w' => w'.cell? ⟨p, 0, none⟩ = some (.pointer (some ⟨q, 0, none⟩)) ∧ w'.cell? ⟨p, 1, none⟩ = some (.int .i64 S.sh) ∧ w'.cell? ⟨p, 2, none⟩ = some (.int .i64 S.cur) ∧ w'.cell? ⟨p, 3, none⟩ = some (.int .i64 S.cac) ∧ w'.cell? ⟨p, 4, none⟩ = some (.pointer (some ⟨bp, 0, none⟩)) ∧ w'.cell? ⟨p, 5, none⟩ = some (.pointer (some ⟨gp, 0, none⟩)))
    (first | exact ⟨by assumption, by assumption, by assumption, by assumption, by assumption, by assumption⟩ | go_keep)
    (first
      | (go_at_call 31; refine (PAt.load_c (by first | exact R1.out | exact R1.out.stpF (Stp.refl (fun _ => False) _ _).drew | exact R1.out.stpF ((Stp.refl (fun _ => False) _ _).drewN _)) (by exact Hcu.out) (by exact Hv.out)).mono ?_; rintro e w2 ⟨rfl, c2, R2, ⟨s0, s1, s2, s3, s4, s5, lp⟩⟩))
  have E1 := F1.out
  go_wp2_with fail
  refine (slots_k S.sh Hsh.out _).mono ?_
  rintro e w4 ⟨rfl, hw4⟩
  have T4 := Lib.hid ((Stp.refl (fun _ => False) c2 w2).alloc (.cells #[.int .i64 S.sh] 108) 0)
  rw [hw4] at T4
  have R4 := Lib.hid (R2.out.stpF T4.out)
  clear hw4 T4 s0 s1 s2 s3 s4 s5 lp
  obtain ⟨s0, s1, s2, s3, s4, s5, lp⟩ := R4.out.sq.cs
  go_upto_region 8 with fail
  go_region_held3 (fun w' => w'.cell? ⟨p, 0, none⟩ = some (.pointer (some ⟨q, 0, none⟩)) ∧ w'.cell? ⟨p, 1, none⟩ = some (.int .i64 S.sh) ∧ w'.cell? ⟨p, 2, none⟩ = some (.int .i64 S.cur) ∧ w'.cell? ⟨p, 3, none⟩ = some (.int .i64 S.cac) ∧ w'.cell? ⟨p, 4, none⟩ = some (.pointer (some ⟨bp, 0, none⟩)) ∧ w'.cell? ⟨p, 5, none⟩ = some (.pointer (some ⟨gp, 0, none⟩)))
    (first | exact ⟨by assumption, by assumption, by assumption, by assumption, by assumption, by assumption⟩ | go_keep)
    (first
      | (go_at_call 62; refine (PAt.show_c (by first | exact R4.out | exact R4.out.stpF (Stp.refl (fun _ => False) _ _).drew | exact R4.out.stpF ((Stp.refl (fun _ => False) _ _).drewN _)) lo hi (by exact Hl.out) (by exact H0.out) (by exact H1.out) (by exact H2.out) (by exact H3.out)).mono ?_; rintro e w5 ⟨rfl, c5, R5, ⟨s0, s1, s2, s3, s4, s5, lp⟩⟩))
  go_wp2
  go_ret
  exact ⟨rfl, c5, R5.out.st, R5.out.ar, R5.out.sq⟩

set_option maxRecDepth 100000 in
theorem mpublish_bad (ha : ArenaS c K w q la) (hB : SeqIs c (K + 1) w p q bp gp S) {v : Int} (hcu : S.cur < la.length) (hv : la.getD S.cur 0 = v) (lo hi : Int) (h : lo < 0 ∨ hi < lo ∨ v < hi) :
    Calls Tryd.prog 26 #[.pointer (some ⟨p, 0, none⟩), .int .i64 lo, .int .i64 hi] w fun e w' => ∃ ev, e = .returned ev ∧ ∃ c', Stp (· = K) c c' w w' ∧ ArenaS c' K w' q la ∧ SeqIs c' (K + 1) w' p q bp gp S ∧ ErrAt c' w' ev 1 := by
  have R1 := Lib.hid (show PAt c w K p q bp gp S la c w from ⟨Stp.refl _ _ _, ha, hB⟩)
  have Hcu := Lib.hid hcu
  have Hv := Lib.hid hv
  have t : decide (lo < 0) = true ∨ (decide (lo < 0) = false ∧ decide (hi < lo) = true) ∨ (decide (lo < 0) = false ∧ decide (hi < lo) = false ∧ decide (v < hi) = true) := by
    simp only [decide_eq_true_eq, decide_eq_false_iff_not]; omega
  obtain ⟨s0, s1, s2, s3, s4, s5, lp⟩ := hB.cs
  clear ha hB hcu hv h
  rcases t with t1 | ⟨t1, t2⟩ | ⟨t1, t2, t3⟩
  all_goals
    go_enter Tryd.func26, Tryd.ntmps26
    go_upto_region 3 with fail
    go_region_held3 (fun w' => w'.cell? ⟨p, 0, none⟩ = some (.pointer (some ⟨q, 0, none⟩)) ∧ w'.cell? ⟨p, 1, none⟩ = some (.int .i64 S.sh) ∧ w'.cell? ⟨p, 2, none⟩ = some (.int .i64 S.cur) ∧ w'.cell? ⟨p, 3, none⟩ = some (.int .i64 S.cac) ∧ w'.cell? ⟨p, 4, none⟩ = some (.pointer (some ⟨bp, 0, none⟩)) ∧ w'.cell? ⟨p, 5, none⟩ = some (.pointer (some ⟨gp, 0, none⟩)))
      (first | exact ⟨by assumption, by assumption, by assumption, by assumption, by assumption, by assumption⟩ | go_keep)
      (first
        | (go_at_call 31; refine (PAt.load_c (by first | exact R1.out | exact R1.out.stpF (Stp.refl (fun _ => False) _ _).drew | exact R1.out.stpF ((Stp.refl (fun _ => False) _ _).drewN _)) (by exact Hcu.out) (by exact Hv.out)).mono ?_; rintro e w2 ⟨rfl, c2, R2, ⟨s0, s1, s2, s3, s4, s5, lp⟩⟩))
    have T3 := Lib.hid ((Stp.refl (fun _ => False) c2 w2).alloc (.cells #[.string ⟨#[112, 117, 98, 108, 105, 115, 104]⟩, .int .i64 hi, .iface 119 (.int .i64 1)] 152) 1)
    have E3 := Lib.hid (ErrAt.new c2 w2 ⟨#[112, 117, 98, 108, 105, 115, 104]⟩ hi 1)
    have R3 := Lib.hid (R2.out.stpF T3.out)
    go_wp2_with (go_at_call 65; refine (wrap_some _ _ _ _ _).mono ?_; rintro e w' ⟨rfl, rfl⟩)
    go_ret
    exact ⟨_, rfl, _, R3.out.st, R3.out.ar, R3.out.sq, E3.out⟩

end
end Go.Proofs.YtoifknfmamcimaaDoor
