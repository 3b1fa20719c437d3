/- The walk of MultiWrong. No condition but that the table of math/bits holds what the program lays there. -/
import Derived.Test.YtoifknfmamcimaaDoorMul9
import Derived.Test.YtoifknfmamcimaaDoorFinDoor
namespace Go.Proofs.YtoifknfmamcimaaDoor
open Go.RowKit

theorem blk7 {c : Nat → Nat} {k : Nat} {w : World} {y : Nat} {v0 v1 v2 v3 v4 v5 v6 : Value} {t : TypeId} (h : Blk c k w y [v0, v1, v2, v3, v4, v5, v6] t) : w.cell? ⟨y, 0, none⟩ = some v0 ∧ w.cell? ⟨y, 1, none⟩ = some v1 ∧ w.cell? ⟨y, 2, none⟩ = some v2 ∧ w.cell? ⟨y, 3, none⟩ = some v3 ∧ w.cell? ⟨y, 4, none⟩ = some v4 ∧ w.cell? ⟨y, 5, none⟩ = some v5 ∧ w.cell? ⟨y, 6, none⟩ = some v6 :=
  ⟨by simpa using h.cell 0, by simpa using h.cell 1, by simpa using h.cell 2, by simpa using h.cell 3, by simpa using h.cell 4, by simpa using h.cell 5, by simpa using h.cell 6⟩

set_option maxRecDepth 100000 in
set_option maxHeartbeats 4000000 in
theorem mwrong_walk (n lo hi : Int) (w : World) (ht : Tab w) :
    Calls Tryd.prog 11 #[.int .i64 n, .int .i64 lo, .int .i64 hi] w fun e w' => e = .returned (.bool true) ∧ Below w.heap.size w w' := by
  have Ht := Lib.hid ht
  have HPB := Lib.hid (show lo < 0 ∨ hi < lo ∨ (-1 : Int) < hi by omega)
  obtain ⟨q, hq⟩ : ∃ q, q = w.heap.size := ⟨_, rfl⟩
  clear ht
  go_enter Tryd.func11, Tryd.ntmps11
  go_wp2_with fail
  refine (new_any (fun _ => 0) 2 _).mono ?_
  rintro e w1 ⟨rfl, c1, s1, h1⟩
  have SA := Lib.hid (s1.up (by decide))
  have HA := Lib.hid (show ArenaAt c1 2 w1 q [] 0 by rw [hq]; exact h1)
  have TA := Lib.hid (Ht.out.stp s1 (by decide))
  have GA := Lib.hid (show c1 1 = 0 by rw [s1.col _ (World.block_lt_of_cell? _ _ (Ht.out 0 (by decide)))])
  rw [← hq]
  clear hq s1 h1
  by_cases hn : NoPow n
  · have HN := Lib.hid hn
    have t : decide (n < 1) = true ∨ (decide (n < 1) = false ∧ decide ((1048576 : Int) < n) = true) ∨ (decide (n < 1) = false ∧ decide ((1048576 : Int) < n) = false ∧ (bits BinOp.and IntKind.i64 n (n - 1) != 0) = true ∧ wrap64 (n - 1) = n - 1) := by
      by_cases h1 : n < 1
      · exact .inl (by simpa using h1)
      · by_cases h2 : 1048576 < n
        · exact .inr (.inl ⟨by simpa using h1, by simpa using h2⟩)
        · exact .inr (.inr ⟨by simpa using h1, by simpa using h2, and_pow n (by omega) (by omega) hn, IntWalk.wrap64_in _ (by constructor <;> omega)⟩)
    clear hn
    rcases t with t1 | ⟨t1, t2⟩ | ⟨t1, t2, t3, t4⟩
    all_goals
      go_wp2_with fail
      refine (mnew_bad c1 q n HN.out _).mono ?_
      rintro e w2 ⟨et, ev, rfl, c2, s2, e2⟩
      have SB := Lib.hid (SA.out.trans (s2.mono (fun _ h => h.elim)))
      have HB := Lib.hid (HA.out.stp s2 id)
      have TB := Lib.hid (TA.out.stp s2 id)
      have GB := Lib.hid (show c2 1 = 0 by rw [s2.col _ (World.block_lt_of_cell? _ _ (TA.out 0 (by decide)))]; exact GA.out)
      have EB := Lib.hid e2
      clear s2 e2 SA HA TA GA
      have SA := SB
      have HA := HB
      have TA := TB
      have GA := GB
      clear SB HB TB GB
      go_wp2_with fail
      refine (lawis (.inr ⟨by decide, EB.out⟩) 7).mono ?_
      rintro e wx ⟨rfl, rfl⟩
      clear EB
      go_wp2_with fail
      refine (len_any HA.out).mono ?_
      rintro e wx ⟨rfl, rfl⟩
      go_wp2_with fail
      refine (mnew_nil 2 _).mono ?_
      rintro e wx ⟨rfl, rfl⟩
      go_wp2_with fail
      refine (mnew_ok HA.out 2 (by decide) (by decide) TA.out (m := 4) (by decide)).mono ?_
      rintro e w2 ⟨p, bp, gp, rfl, c2, s2, h2, q2⟩
      have S2 := Lib.hid (SA.out.trans (s2.up (by decide)))
      have H2 := Lib.hid (show ArenaS c2 2 w2 q [-1, -1, -1, -1, -1, -1] from ⟨_, h2⟩)
      have Q2 := Lib.hid (show SeqIs c2 3 w2 p q bp gp ⟨2, 0, 1, 2, []⟩ from q2)
      have T2 := Lib.hid (TA.out.stp s2 (by rw [GA.out]; decide))
      have G2 := Lib.hid (show c2 1 = 0 by rw [s2.col _ (World.block_lt_of_cell? _ _ (TA.out 0 (by decide)))]; exact GA.out)
      clear s2 h2 q2 HA SA TA GA
      go_wp2_with fail
      refine (mpublish_bad H2.out Q2.out (v := -1) (by decide) rfl lo hi HPB.out).mono ?_
      rintro e w3 ⟨ev3, rfl, c3, s3, h3, q3, e3⟩
      have S3 := Lib.hid (S2.out.trans (s3.up (by decide)))
      have Q3 := Lib.hid q3
      have E3 := Lib.hid e3
      have T3 := Lib.hid (T2.out.stp s3 (by rw [G2.out]; decide))
      have G3 := Lib.hid (show c3 1 = 0 by rw [s3.col _ (World.block_lt_of_cell? _ _ (T2.out 0 (by decide)))]; exact G2.out)
      clear s3 h3 q3 e3 H2 Q2 S2 T2 G2
      go_wp2_with fail
      refine (lawis (.inr ⟨by decide, E3.out⟩) 1).mono ?_
      rintro e wx ⟨rfl, rfl⟩
      clear E3
      go_wp2_with fail
      refine (mclaim_bad Q3.out 5 (.inr (by decide))).mono ?_
      rintro e w4 ⟨ev4, rfl, c4, s4, e4⟩
      have S4 := Lib.hid (S3.out.trans (s4.mono (fun _ h => h.elim)))
      have Q4 := Lib.hid (Q3.out.stp s4 id id id)
      have E4 := Lib.hid e4
      have T4 := Lib.hid (T3.out.stp s4 id)
      have G4 := Lib.hid (show c4 1 = 0 by rw [s4.col _ (World.block_lt_of_cell? _ _ (T3.out 0 (by decide)))]; exact G3.out)
      clear s4 e4 S3 Q3 T3 G3
      go_wp2_with fail
      refine (mclaim_bad Q4.out 0 (.inl (by decide))).mono ?_
      rintro e w5 ⟨ev5, rfl, c5, s5, e5⟩
      have S5 := Lib.hid (S4.out.trans (s5.mono (fun _ h => h.elim)))
      have F5 := Lib.hid (E4.out.stp s5 id)
      have E5 := Lib.hid e5
      have T5 := Lib.hid (T4.out.stp s5 id)
      have G5 := Lib.hid (show c5 1 = 0 by rw [s5.col _ (World.block_lt_of_cell? _ _ (T4.out 0 (by decide)))]; exact G4.out)
      clear s5 e5 S4 Q4 T4 G4 E4
      go_wp2_with fail
      refine (mclaim_nil c5 1 _).mono ?_
      rintro e w6 ⟨rfl, c6, s6⟩
      have S6 := Lib.hid (S5.out.trans (s6.mono (fun _ h => h.elim)))
      have F6 := Lib.hid (F5.out.stp s6 id)
      have E6 := Lib.hid (E5.out.stp s6 id)
      have T6 := Lib.hid (T5.out.stp s6 id)
      have G6 := Lib.hid (show c6 1 = 0 by rw [s6.col _ (World.block_lt_of_cell? _ _ (T5.out 0 (by decide)))]; exact G5.out)
      clear s6 S5 F5 E5 T5 G5
      go_wp2_with fail
      refine (mhigh_nil 1 _).mono ?_
      rintro e wx ⟨rfl, rfl⟩
      go_wp2_with fail
      refine (mremain_nil _).mono ?_
      rintro e wx ⟨rfl, rfl⟩
      go_wp2_with fail
      refine (mtry_nil c6 1 _).mono ?_
      rintro e w7 ⟨rfl, c7, s7⟩
      obtain ⟨z, hz⟩ : ∃ z, z = w7.heap.size := ⟨_, rfl⟩
      obtain ⟨c8, hc8, A8⟩ := (s7.alloc (.cells #[.pointer none, .int .i64 0, .int .i64 0, .int .i64 0, .int .i64 0, .slice none 0 0, .int .i64 0] 73) 9).name
      have Z8 := Lib.hid (show Blk c8 9 (w7.alloc (.cells #[.pointer none, .int .i64 0, .int .i64 0, .int .i64 0, .int .i64 0, .slice none 0 0, .int .i64 0] 73)) z [.pointer none, .int .i64 0, .int .i64 0, .int .i64 0, .int .i64 0, .slice none 0 0, .int .i64 0] 73 by rw [hc8.out, hz]; exact Blk.new c7 9 w7 _ _)
      have S8 := Lib.hid (S6.out.trans (A8.out.mono (fun _ h => h.elim)))
      have F8 := Lib.hid (F6.out.stp A8.out id)
      have E8 := Lib.hid (E6.out.stp A8.out id)
      have T8 := Lib.hid (T6.out.stp A8.out id)
      have G8 := Lib.hid (show c8 1 = 0 by rw [A8.out.col _ (World.block_lt_of_cell? _ _ (T6.out 0 (by decide)))]; exact G6.out)
      clear s7 hc8 A8 S6 F6 E6 T6 G6
      go_wp2_with fail
      rw [← hz]
      clear hz
      refine (awake10k 12 (by decide) c8 _ T8.out G8.out).mono ?_
      rintro e w9 ⟨rfl, c9, s9⟩
      have S9 := Lib.hid (S8.out.trans (s9.mono (fun k h => by omega)))
      have F9 := Lib.hid (F8.out.stp s9 (by decide))
      have E9 := Lib.hid (E8.out.stp s9 (by decide))
      have Z9 := Lib.hid (Z8.out.stp s9 (by decide))
      clear s9 S8 F8 E8 T8 G8 Z8
      go_wp2_with fail
      refine (lawis (c := c9) (.inr ⟨by decide, .inl rfl⟩) 2).mono ?_
      rintro e wx ⟨rfl, rfl⟩
      go_wp2_with fail
      refine (lawis (.inr ⟨by decide, F9.out⟩) 1).mono ?_
      rintro e wx ⟨rfl, rfl⟩
      go_wp2_with fail
      refine (lawis (.inr ⟨by decide, E9.out⟩) 1).mono ?_
      rintro e wx ⟨rfl, rfl⟩
      go_wp2_with fail
      refine (lawis (c := c9) (.inr ⟨by decide, .inl rfl⟩) 2).mono ?_
      rintro e wx ⟨rfl, rfl⟩
      go_wp2_with fail
      refine (lawis (c := c9) (.inr ⟨by decide, .inl rfl⟩) 2).mono ?_
      rintro e wx ⟨rfl, rfl⟩
      go_wp2_with fail
      refine (lawis (c := c9) (.inr ⟨by decide, .inl rfl⟩) 2).mono ?_
      rintro e wx ⟨rfl, rfl⟩
      go_wp2_with fail
      refine (lawis (c := c9) (.inr ⟨by decide, .inl rfl⟩) 2).mono ?_
      rintro e wx ⟨rfl, rfl⟩
      obtain ⟨z0, z1, z2, z3, z4, z5, z6⟩ := blk7 Z9.out
      go_wp2_with fail
      refine (tdone_nil 0 0 0 0 none 0 0 0 c9 _).mono ?_
      rintro e w10 ⟨rfl, c10, s10⟩
      have S10 := Lib.hid (S9.out.trans (s10.mono (fun _ h => h.elim)))
      clear s10 S9 F9 E9 Z9 z0 z1 z2 z3 z4 z5 z6
      go_wp2_with fail
      refine (mpublish_nil lo hi _).mono ?_
      rintro e wx ⟨rfl, rfl⟩
      go_wp2_with fail
      refine (lawis (c := c10) (.inr ⟨by decide, .inl rfl⟩) 2).mono ?_
      rintro e wx ⟨rfl, rfl⟩
      go_wp2_with (first
        | (go_at_call 43; refine (mclaimed_nil _).mono ?_; rintro e wx ⟨rfl, rfl⟩)
        | (go_at_call 54; refine (mcursor_nil _).mono ?_; rintro e wx ⟨rfl, rfl⟩)
        | (go_at_call 52; refine (mcached_nil _).mono ?_; rintro e wx ⟨rfl, rfl⟩)
        | (go_at_call 55; refine (mshown_nil _).mono ?_; rintro e wx ⟨rfl, rfl⟩)
        | (go_at_call 46; refine (mgate_nil _).mono ?_; rintro e wx ⟨rfl, rfl⟩)
        | (go_at_call 56; refine (glen_nil _).mono ?_; rintro e wx ⟨rfl, rfl⟩))
      go_ret
      exact ⟨by first | rfl | simp, S10.out.fin⟩
  · obtain ⟨k, hk, hnk⟩ : ∃ k : Nat, k < 21 ∧ n = ((2 ^ k : Nat) : Int) := by
      refine Classical.byContradiction fun h => hn fun k hk e => h ⟨k, hk, e⟩
    have hb := two_pow_bd k hk
    have hnk2 : n = 2 ^ k := by rw [hnk]; exact two_pow_cast k
    have t1 : decide (n < 1) = false := by simp; omega
    have t2 : decide ((1048576 : Int) < n) = false := by simp; omega
    have t3 : (bits BinOp.and IntKind.i64 n (n - 1) != 0) = false := by
      rw [hnk2, and_mask _ k hk, Int.emod_self]; rfl
    have t4 : wrap64 (n - 1) = n - 1 := IntWalk.wrap64_in _ (by constructor <;> omega)
    clear hn hnk hnk2 hb hk
    go_wp2_with fail
    refine (mnew_nil 2 _).mono ?_
    rintro e wx ⟨rfl, rfl⟩
    go_wp2_with fail
    refine (mnew_ok HA.out 2 (by decide) (by decide) TA.out (m := 4) (by decide)).mono ?_
    rintro e w2 ⟨p, bp, gp, rfl, c2, s2, h2, q2⟩
    have S2 := Lib.hid (SA.out.trans (s2.up (by decide)))
    have H2 := Lib.hid (show ArenaS c2 2 w2 q [-1, -1, -1, -1, -1, -1] from ⟨_, h2⟩)
    have Q2 := Lib.hid (show SeqIs c2 3 w2 p q bp gp ⟨2, 0, 1, 2, []⟩ from q2)
    have T2 := Lib.hid (TA.out.stp s2 (by rw [GA.out]; decide))
    have G2 := Lib.hid (show c2 1 = 0 by rw [s2.col _ (World.block_lt_of_cell? _ _ (TA.out 0 (by decide)))]; exact GA.out)
    clear s2 h2 q2 HA SA TA GA
    go_wp2_with fail
    refine (mpublish_bad H2.out Q2.out (v := -1) (by decide) rfl lo hi HPB.out).mono ?_
    rintro e w3 ⟨ev3, rfl, c3, s3, h3, q3, e3⟩
    have S3 := Lib.hid (S2.out.trans (s3.up (by decide)))
    have Q3 := Lib.hid q3
    have E3 := Lib.hid e3
    have T3 := Lib.hid (T2.out.stp s3 (by rw [G2.out]; decide))
    have G3 := Lib.hid (show c3 1 = 0 by rw [s3.col _ (World.block_lt_of_cell? _ _ (T2.out 0 (by decide)))]; exact G2.out)
    clear s3 h3 q3 e3 H2 Q2 S2 T2 G2
    go_wp2_with fail
    refine (lawis (.inr ⟨by decide, E3.out⟩) 1).mono ?_
    rintro e wx ⟨rfl, rfl⟩
    clear E3
    go_wp2_with fail
    refine (mclaim_bad Q3.out 5 (.inr (by decide))).mono ?_
    rintro e w4 ⟨ev4, rfl, c4, s4, e4⟩
    have S4 := Lib.hid (S3.out.trans (s4.mono (fun _ h => h.elim)))
    have Q4 := Lib.hid (Q3.out.stp s4 id id id)
    have E4 := Lib.hid e4
    have T4 := Lib.hid (T3.out.stp s4 id)
    have G4 := Lib.hid (show c4 1 = 0 by rw [s4.col _ (World.block_lt_of_cell? _ _ (T3.out 0 (by decide)))]; exact G3.out)
    clear s4 e4 S3 Q3 T3 G3
    go_wp2_with fail
    refine (mclaim_bad Q4.out 0 (.inl (by decide))).mono ?_
    rintro e w5 ⟨ev5, rfl, c5, s5, e5⟩
    have S5 := Lib.hid (S4.out.trans (s5.mono (fun _ h => h.elim)))
    have F5 := Lib.hid (E4.out.stp s5 id)
    have E5 := Lib.hid e5
    have T5 := Lib.hid (T4.out.stp s5 id)
    have G5 := Lib.hid (show c5 1 = 0 by rw [s5.col _ (World.block_lt_of_cell? _ _ (T4.out 0 (by decide)))]; exact G4.out)
    clear s5 e5 S4 Q4 T4 G4 E4
    go_wp2_with fail
    refine (mclaim_nil c5 1 _).mono ?_
    rintro e w6 ⟨rfl, c6, s6⟩
    have S6 := Lib.hid (S5.out.trans (s6.mono (fun _ h => h.elim)))
    have F6 := Lib.hid (F5.out.stp s6 id)
    have E6 := Lib.hid (E5.out.stp s6 id)
    have T6 := Lib.hid (T5.out.stp s6 id)
    have G6 := Lib.hid (show c6 1 = 0 by rw [s6.col _ (World.block_lt_of_cell? _ _ (T5.out 0 (by decide)))]; exact G5.out)
    clear s6 S5 F5 E5 T5 G5
    go_wp2_with fail
    refine (mhigh_nil 1 _).mono ?_
    rintro e wx ⟨rfl, rfl⟩
    go_wp2_with fail
    refine (mremain_nil _).mono ?_
    rintro e wx ⟨rfl, rfl⟩
    go_wp2_with fail
    refine (mtry_nil c6 1 _).mono ?_
    rintro e w7 ⟨rfl, c7, s7⟩
    obtain ⟨z, hz⟩ : ∃ z, z = w7.heap.size := ⟨_, rfl⟩
    obtain ⟨c8, hc8, A8⟩ := (s7.alloc (.cells #[.pointer none, .int .i64 0, .int .i64 0, .int .i64 0, .int .i64 0, .slice none 0 0, .int .i64 0] 73) 9).name
    have Z8 := Lib.hid (show Blk c8 9 (w7.alloc (.cells #[.pointer none, .int .i64 0, .int .i64 0, .int .i64 0, .int .i64 0, .slice none 0 0, .int .i64 0] 73)) z [.pointer none, .int .i64 0, .int .i64 0, .int .i64 0, .int .i64 0, .slice none 0 0, .int .i64 0] 73 by rw [hc8.out, hz]; exact Blk.new c7 9 w7 _ _)
    have S8 := Lib.hid (S6.out.trans (A8.out.mono (fun _ h => h.elim)))
    have F8 := Lib.hid (F6.out.stp A8.out id)
    have E8 := Lib.hid (E6.out.stp A8.out id)
    have T8 := Lib.hid (T6.out.stp A8.out id)
    have G8 := Lib.hid (show c8 1 = 0 by rw [A8.out.col _ (World.block_lt_of_cell? _ _ (T6.out 0 (by decide)))]; exact G6.out)
    clear s7 hc8 A8 S6 F6 E6 T6 G6
    go_wp2_with fail
    rw [← hz]
    clear hz
    refine (awake10k 12 (by decide) c8 _ T8.out G8.out).mono ?_
    rintro e w9 ⟨rfl, c9, s9⟩
    have S9 := Lib.hid (S8.out.trans (s9.mono (fun k h => by omega)))
    have F9 := Lib.hid (F8.out.stp s9 (by decide))
    have E9 := Lib.hid (E8.out.stp s9 (by decide))
    have Z9 := Lib.hid (Z8.out.stp s9 (by decide))
    clear s9 S8 F8 E8 T8 G8 Z8
    go_wp2_with fail
    refine (lawis (c := c9) (.inr ⟨by decide, .inl rfl⟩) 2).mono ?_
    rintro e wx ⟨rfl, rfl⟩
    go_wp2_with fail
    refine (lawis (.inr ⟨by decide, F9.out⟩) 1).mono ?_
    rintro e wx ⟨rfl, rfl⟩
    go_wp2_with fail
    refine (lawis (.inr ⟨by decide, E9.out⟩) 1).mono ?_
    rintro e wx ⟨rfl, rfl⟩
    go_wp2_with fail
    refine (lawis (c := c9) (.inr ⟨by decide, .inl rfl⟩) 2).mono ?_
    rintro e wx ⟨rfl, rfl⟩
    go_wp2_with fail
    refine (lawis (c := c9) (.inr ⟨by decide, .inl rfl⟩) 2).mono ?_
    rintro e wx ⟨rfl, rfl⟩
    go_wp2_with fail
    refine (lawis (c := c9) (.inr ⟨by decide, .inl rfl⟩) 2).mono ?_
    rintro e wx ⟨rfl, rfl⟩
    go_wp2_with fail
    refine (lawis (c := c9) (.inr ⟨by decide, .inl rfl⟩) 2).mono ?_
    rintro e wx ⟨rfl, rfl⟩
    obtain ⟨z0, z1, z2, z3, z4, z5, z6⟩ := blk7 Z9.out
    go_wp2_with fail
    refine (tdone_nil 0 0 0 0 none 0 0 0 c9 _).mono ?_
    rintro e w10 ⟨rfl, c10, s10⟩
    have S10 := Lib.hid (S9.out.trans (s10.mono (fun _ h => h.elim)))
    clear s10 S9 F9 E9 Z9 z0 z1 z2 z3 z4 z5 z6
    go_wp2_with fail
    refine (mpublish_nil lo hi _).mono ?_
    rintro e wx ⟨rfl, rfl⟩
    go_wp2_with fail
    refine (lawis (c := c10) (.inr ⟨by decide, .inl rfl⟩) 2).mono ?_
    rintro e wx ⟨rfl, rfl⟩
    go_wp2_with (first
      | (go_at_call 43; refine (mclaimed_nil _).mono ?_; rintro e wx ⟨rfl, rfl⟩)
      | (go_at_call 54; refine (mcursor_nil _).mono ?_; rintro e wx ⟨rfl, rfl⟩)
      | (go_at_call 52; refine (mcached_nil _).mono ?_; rintro e wx ⟨rfl, rfl⟩)
      | (go_at_call 55; refine (mshown_nil _).mono ?_; rintro e wx ⟨rfl, rfl⟩)
      | (go_at_call 46; refine (mgate_nil _).mono ?_; rintro e wx ⟨rfl, rfl⟩)
      | (go_at_call 56; refine (glen_nil _).mono ?_; rintro e wx ⟨rfl, rfl⟩))
    go_ret
    exact ⟨by first | rfl | simp, S10.out.fin⟩
end Go.Proofs.YtoifknfmamcimaaDoor
