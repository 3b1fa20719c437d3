/- The document's example of a barrier; a barrier that is none. No condition beyond each contract's own. -/
import Derived.Test.YtoifknfmamcimaaDoorBar4
import Derived.Test.YtoifknfmamcimaaDoorBar4b
import Derived.Test.YtoifknfmamcimaaDoorMem5
namespace Go.Proofs.YtoifknfmamcimaaDoor
open Go.RowKit

set_option maxRecDepth 100000 in
theorem prdone_nil (next : Int) (c : Nat → Nat) (w : World) :
    Calls Tryd.prog 16 #[.agg #[.pointer none, .int .i64 next, .int .i64 0, .slice none 0 0, .int .i64 0, .int .i64 0, .int .i64 0, .int .i64 0, .bool false]] w fun e w' => e = .returned (.bool true) ∧ ∃ c', Stp (fun _ => False) c c' w w' := by
  have S := Lib.hid ((Stp.refl (fun _ => False) c w).alloc (.cells #[.pointer none, .int .i64 next, .int .i64 0, .slice none 0 0, .int .i64 0, .int .i64 0, .int .i64 0, .int .i64 0, .bool false] 35) 0)
  go_enter Tryd.func16, Tryd.ntmps16
  go_wp2
  go_ret
  exact ⟨rfl, _, S.out⟩

set_option maxRecDepth 100000 in
theorem pstep_nilb (q : Nat) (next : Int) (c : Nat → Nat) (w : World) :
    Calls Tryd.prog 18 #[.agg #[.pointer none, .int .i64 next, .int .i64 0, .slice none 0 0, .int .i64 0, .int .i64 0, .int .i64 0, .int .i64 0, .bool false], .pointer (some ⟨q, 0, none⟩)] w fun e w' => e = .returned (.tuple #[.agg #[.pointer none, .int .i64 next, .int .i64 0, .slice none 0 0, .int .i64 0, .int .i64 0, .int .i64 0, .int .i64 0, .bool false], .iface 119 (.int .i64 2)]) ∧ ∃ c', Stp (fun _ => False) c c' w w' := by
  have S := Lib.hid (((Stp.refl (fun _ => False) c w).alloc (.cells #[.pointer none, .int .i64 next, .int .i64 0, .slice none 0 0, .int .i64 0, .int .i64 0, .int .i64 0, .int .i64 0, .bool false] 35) 0).alloc (.cells #[.pointer none, .int .i64 next, .int .i64 0, .slice none 0 0, .int .i64 0, .int .i64 0, .int .i64 0, .int .i64 0, .bool false] 35) 0)
  go_enter Tryd.func18, Tryd.ntmps18
  go_wp2
  exact bodyPost_ret (v := .tuple #[.agg #[.pointer none, .int .i64 next, .int .i64 0, .slice none 0 0, .int .i64 0, .int .i64 0, .int .i64 0, .int .i64 0, .bool false], .iface 119 (.int .i64 2)]) (by simp [results, Tryd.results18, go_sem]) rfl ⟨rfl, _, S.out⟩

set_option maxRecDepth 100000 in
theorem blook_nil (q : Nat) (next : Int) (c : Nat → Nat) (w : World) :
    Calls Tryd.prog 19 #[.pointer none, .pointer (some ⟨q, 0, none⟩), .int .i64 next] w fun e w' => e = .returned (.tuple #[.int .i64 0, .iface 119 (.int .i64 2)]) ∧ ∃ c', Stp (fun _ => False) c c' w w' := by
  go_enter Tryd.func19, Tryd.ntmps19
  go_wp2_with fail
  refine (bprobe_any none next c _).mono ?_
  rintro e w1 ⟨rfl, c1, t1⟩
  have T1 := Lib.hid t1
  clear t1
  go_wp2
  obtain ⟨c2, hc2, T2⟩ := (T1.out.alloc (.cells #[.pointer none, .int .i64 next, .int .i64 0, .slice none 0 0, .int .i64 0, .int .i64 0, .int .i64 0, .int .i64 0, .bool false] 35) 0).name
  go_loopg [] 0 (fun _ wr => wr = w1.alloc (.cells #[.pointer none, .int .i64 next, .int .i64 0, .slice none 0 0, .int .i64 0, .int .i64 0, .int .i64 0, .int .i64 0, .bool false] 35))
  case atStart => rfl
  case round =>
    subst hrel
    go_wp2_with fail
    refine (pstep_nilb q next c2 _).mono ?_
    rintro e w3 ⟨rfl, c3, t3⟩
    have T3 := Lib.hid (T2.out.trans t3)
    clear t3
    have T4 := Lib.hid (T3.out.alloc (.cells #[.pointer none, .int .i64 next, .int .i64 0, .slice none 0 0, .int .i64 0, .int .i64 0, .int .i64 0, .int .i64 0, .bool false] 35) 0)
    go_wp2
    go_ret2
    exact ⟨rfl, _, T4.out⟩

/-- The document's example. -/
theorem awake12k (K : Nat) (c : Nat → Nat) (w : World) :
    Calls Tryd.prog 14 #[] w fun e w' => e = .returned (.bool true) ∧ ∃ c', Stp (K ≤ ·) c c' w w' := by
  go_enter Tryd.func14, Tryd.ntmps14
  go_wp2_with fail
  refine (new_any c K _).mono ?_
  rintro e w1 ⟨rfl, c1, s1, h1⟩
  have S1 := Lib.hid (s1.mono (J' := (K ≤ ·)) (fun _ h => Nat.le_of_eq h.symm))
  have H1 := Lib.hid h1
  clear s1 h1
  go_wp2_with fail
  refine (alloc_ok H1.out 4 (by simp)).mono ?_
  rintro e w2 ⟨rfl, c2, s2, h2⟩
  have S2 := Lib.hid (S1.out.trans (s2.mono (fun _ h => Nat.le_of_eq h.symm)))
  have H2 := Lib.hid h2
  clear s2 h2 S1 H1
  go_wp2_with fail
  refine (alloc_ok H2.out 2 (by simp)).mono ?_
  rintro e w3 ⟨rfl, c3, s3, h3⟩
  have S3 := Lib.hid (S2.out.trans (s3.mono (fun _ h => Nat.le_of_eq h.symm)))
  have H3 := Lib.hid (show ArenaAt c3 K w3 w.heap.size [4, 2] 0 from h3)
  clear s3 h3 S2 H2
  obtain ⟨c4, hc4, T4⟩ := ((Stp.refl (fun _ => False) c3 w3).alloc (.cells #[.int .i64 1] 3) (K + 7)).name
  have Z := Lib.hid (show In c4 (K + 7) (w3.alloc (.cells #[.int .i64 1] 3)) 1 (some ⟨w3.heap.size, 0, none⟩) 1 1 ([(1 : Int)].map (Value.int .i64)) by rw [hc4.out]; exact (Row.blk (Blk.new c3 (K + 7) w3 [.int .i64 1] 3) (by simp) (by unfold maxLen; omega)).toIn)
  have H4 := Lib.hid (H3.out.stp T4.out id)
  have S4 := Lib.hid (S3.out.trans (T4.out.mono (fun _ h => h.elim)))
  clear hc4 T4 S3 H3
  go_wp2_with fail
  refine (bnew_ok (cur := 0) (buf := none) (bv := none) H4.out Z.out (by omega) (by omega) (by decide) (by decide) (by decide) (.inl ⟨rfl, rfl⟩)).mono ?_
  rintro e w5 ⟨b, g, rfl, c5, s5, h5, b5⟩
  have S5 := Lib.hid (S4.out.trans (s5.mono (J' := (K ≤ ·)) (fun _ h => by rcases h with h | h <;> omega)))
  have H5 := Lib.hid (show ArenaAt c5 K w5 w.heap.size [4, 2, 0] 0 from h5)
  have B5 := Lib.hid (show BarIs c5 (K + 1) w5 b g none ⟨0, 2, [1], none⟩ from b5)
  have HO := Lib.hid (show BarOK [4, 2, 0] ⟨0, 2, [1], none⟩ from ⟨by decide, by decide, by decide, by decide, (fun _ _ h => by cases h), by decide⟩)
  have E1 := Lib.hid (show EndsP ⟨0, 2, [1], none⟩ [4, 2, 0] (Pr.start 1) 2 ⟨1, 1, [], 2, 0, 2, 0, true⟩ from ends_after 1 rfl (by decide) (by decide))
  have E3 := Lib.hid (show EndsP ⟨0, 2, [1], none⟩ [4, 2, 0] (Pr.start 3) 2 ⟨3, 1, [], 2, 0, 2, 0, true⟩ from ends_after 3 rfl (by decide) (by decide))
  clear s5 h5 b5 S4 H4 Z
  go_wp2_with fail
  refine (blook_ok H5.out B5.out HO.out (next := 1) (by decide) E1.out (by decide) (by decide)).mono ?_
  rintro e w6 ⟨ev, rfl, c6, s6, h6, h⟩
  rcases h with ⟨h, -⟩ | ⟨-, rfl⟩
  · exact absurd h (by decide)
  have S6 := Lib.hid (S5.out.trans (s6.mono (J' := (K ≤ ·)) (fun _ h => Nat.le_of_eq h.symm)))
  have H6 := Lib.hid (show ArenaAt c6 K w6 w.heap.size [4, 2, 0] 2 from h6)
  have B6 := Lib.hid (B5.out.stp s6 (by omega) (by omega) (by omega))
  clear s6 h6 S5 H5 B5
  rw [show (Pr.mk 1 1 [] 2 0 2 0 true).avail = 2 from rfl]
  go_wp2_with fail
  refine (blook_ok H6.out B6.out HO.out (next := 3) (by decide) E3.out (by decide) (by decide)).mono ?_
  rintro e w7 ⟨ev, rfl, c7, s7, h7, h⟩
  rcases h with ⟨h, -⟩ | ⟨-, rfl⟩
  · exact absurd h (by decide)
  have S7 := Lib.hid (S6.out.trans (s7.mono (J' := (K ≤ ·)) (fun _ h => Nat.le_of_eq h.symm)))
  rw [show (Pr.mk 3 1 [] 2 0 2 0 true).avail = 2 from rfl]
  clear s7 h7 S6 H6 B6
  go_wp2
  go_ret
  exact ⟨rfl, c7, S7.out⟩
end Go.Proofs.YtoifknfmamcimaaDoor
