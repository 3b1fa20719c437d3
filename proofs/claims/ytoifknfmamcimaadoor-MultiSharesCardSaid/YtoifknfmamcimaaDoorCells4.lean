/- Contracts of the arena's functions Swap, Add, Clone where they refuse, or add, or copy. No condition beyond each contract's own. -/
import Derived.Test.YtoifknfmamcimaaDoorCells3
import Derived.Test.YtoifknfmamcimaaDoorMem5
namespace Go.Proofs.YtoifknfmamcimaaDoor
open Go.RowKit

theorem swap_bad {c : Nat → Nat} {k : Nat} {w : World} {p : Nat} {l : List Int} {s : Int} (h : ArenaAt c k w p l s) (id old v : Int) (hid : id < 0 ∨ (l.length : Int) ≤ id) :
    Calls Tryd.prog 82 #[.pointer (some ⟨p, 0, none⟩), .int .i64 id, .int .i64 old, .int .i64 v] w fun e w' => ∃ ev, e = .returned (.tuple #[.bool false, ev]) ∧ ∃ c', Stp (fun _ => False) c c' w w' ∧ ErrAt c' w' ev 3 := by
  have Hat := Lib.hid h
  have Hid' := Lib.hid hid
  clear h hid
  go_enter Tryd.func82, Tryd.ntmps82
  go_wp2_with (go_at_call 64; refine (at_bad Hat.out _ _ Hid'.out).mono ?_; rintro e w' ⟨rfl, rfl⟩)
  go_ret2
  exact ⟨_, rfl, _, (Stp.refl _ c w).alloc _ 1, ErrAt.new _ _ _ _ _⟩

theorem add_bad {c : Nat → Nat} {k : Nat} {w : World} {p : Nat} {l : List Int} {s : Int} (h : ArenaAt c k w p l s) (id d : Int) (hid : id < 0 ∨ (l.length : Int) ≤ id) :
    Calls Tryd.prog 17 #[.pointer (some ⟨p, 0, none⟩), .int .i64 id, .int .i64 d] w fun e w' => ∃ ev, e = .returned (.tuple #[.int .i64 0, ev]) ∧ ∃ c', Stp (fun _ => False) c c' w w' ∧ ErrAt c' w' ev 3 := by
  have Hat := Lib.hid h
  have Hid' := Lib.hid hid
  clear h hid
  go_enter Tryd.func17, Tryd.ntmps17
  go_wp2_with (go_at_call 64; refine (at_bad Hat.out _ _ Hid'.out).mono ?_; rintro e w' ⟨rfl, rfl⟩)
  go_ret2
  exact ⟨_, rfl, _, (Stp.refl _ c w).alloc _ 1, ErrAt.new _ _ _ _ _⟩

theorem store_no {c : Nat → Nat} {k : Nat} {w : World} {p : Nat} {l : List Int} {s : Int} (h : ArenaAt c k w p l s) (id v : Int) (hid : id < 0 ∨ (l.length : Int) ≤ id) :
    Calls Tryd.prog 49 #[.pointer (some ⟨p, 0, none⟩), .int .i64 id, .int .i64 v] w fun e w' => ∃ ev, e = .returned ev ∧ ∃ c', Stp (fun _ => False) c c' w w' ∧ ErrAt c' w' ev 3 := by
  have Hat := Lib.hid h
  have Hid' := Lib.hid hid
  clear h hid
  go_enter Tryd.func49, Tryd.ntmps49
  go_wp2_with (go_at_call 64; refine (at_bad Hat.out _ _ Hid'.out).mono ?_; rintro e w' ⟨rfl, rfl⟩)
  go_ret
  exact ⟨_, rfl, _, (Stp.refl _ c w).alloc _ 1, ErrAt.new _ _ _ _ _⟩

theorem load_no {c : Nat → Nat} {k : Nat} {w : World} {p : Nat} {l : List Int} {s : Int} (h : ArenaAt c k w p l s) (id : Int) (hid : id < 0 ∨ (l.length : Int) ≤ id) :
    Calls Tryd.prog 31 #[.pointer (some ⟨p, 0, none⟩), .int .i64 id] w fun e w' => ∃ ev, e = .returned (.tuple #[.int .i64 0, ev]) ∧ ∃ c', Stp (fun _ => False) c c' w w' ∧ ErrAt c' w' ev 3 := by
  have Hat := Lib.hid h
  have Hid' := Lib.hid hid
  clear h hid
  go_enter Tryd.func31, Tryd.ntmps31
  go_wp2_with (go_at_call 64; refine (at_bad Hat.out _ _ Hid'.out).mono ?_; rintro e w' ⟨rfl, rfl⟩)
  go_ret2
  exact ⟨_, rfl, _, (Stp.refl _ c w).alloc _ 1, ErrAt.new _ _ _ _ _⟩

/-- The tests of Add, by the sign of what is added. -/
theorem add_tests {x d V : Int} (hV : x + d = V) : (decide (x < V) = true ∧ decide (0 < d) = true ∧ (d != 0) = true) ∨ (decide (x < V) = false ∧ decide (0 < d) = false ∧ (d != 0) = false) ∨ (decide (x < V) = false ∧ decide (0 < d) = false ∧ (d != 0) = true) := by
  rcases Int.lt_trichotomy d 0 with h | h | h
  · exact .inr (.inr ⟨by simp; omega, by simp; omega, by simp; omega⟩)
  · exact .inr (.inl ⟨by simp; omega, by simp; omega, by simp; omega⟩)
  · exact .inl ⟨by simp; omega, by simp; omega, by simp; omega⟩

theorem add_ok {c : Nat → Nat} {k : Nat} {w : World} {p : Nat} {l : List Int} {s : Int} (h : ArenaAt c k w p l s) (j : Nat) (d V : Int) (hj : j < l.length) (hV : l.getD j 0 + d = V) (hlo : -9223372036854775808 ≤ V) (hhi : V ≤ 9223372036854775807) (s0 : 0 ≤ s) (s1 : s < 4611686018427387904) :
    Calls Tryd.prog 17 #[.pointer (some ⟨p, 0, none⟩), .int .i64 j, .int .i64 d] w fun e w' => e = .returned (.tuple #[.int .i64 V, .nilIface]) ∧ ∃ c', Stp (· = k) c c' w w' ∧ ArenaAt c' k w' p (l.set j V) (s + 1) := by
  have Hat := Lib.hid h
  obtain ⟨g, off, cap, hb, hr, hc, hf, hne⟩ := (h.step (s + 1)).open_cell hj
  have Hb := Lib.hid hb
  have Hr := Lib.hid hr
  have c0 := hb.cell 0
  simp at c0
  generalize l.getD j 0 = x at *
  have W : V = wrap64 (x + d) := by rw [hV]; exact (IntWalk.wrap64_in _ ⟨by omega, by omega⟩).symm
  have T := add_tests hV
  clear hb hr h hV hlo hhi
  subst W
  rcases T with ⟨t1, t2, t3⟩ | ⟨t1, t2, t3⟩ | ⟨t1, t2, t3⟩
  all_goals
    go_enter Tryd.func17, Tryd.ntmps17
    go_wp2_with (go_at_call 64; refine (at_ok Hat.out _ _ (by omega) (by omega) s0 s1).mono ?_; rintro e w' ⟨rfl, rfl⟩)
    go_ret2
    obtain ⟨_, _, hb0, _⟩ := Hat.out
    exact ⟨rfl, _, ((Stp.refl _ c w).setCell _ hb0.1).setCell _ Hr.out.2.2.2.2.1, ArenaAt.put Hb.out Hr.out j hj _⟩

theorem add_over {c : Nat → Nat} {k : Nat} {w : World} {p : Nat} {l : List Int} {s : Int} (h : ArenaAt c k w p l s) (j : Nat) (d : Int) (hj : j < l.length) (hx : -9223372036854775808 ≤ l.getD j 0 ∧ l.getD j 0 ≤ 9223372036854775807) (hd : -9223372036854775808 ≤ d ∧ d ≤ 9223372036854775807) (hV : l.getD j 0 + d < -9223372036854775808 ∨ 9223372036854775807 < l.getD j 0 + d) (s0 : 0 ≤ s) (s1 : s < 4611686018427387904) :
    Calls Tryd.prog 17 #[.pointer (some ⟨p, 0, none⟩), .int .i64 j, .int .i64 d] w fun e w' => ∃ ev, e = .returned (.tuple #[.int .i64 0, ev]) ∧ ∃ c', Stp (· = k) c c' w w' ∧ ArenaAt c' k w' p l (s + 1) ∧ ErrAt c' w' ev 5 := by
  have Hat := Lib.hid h
  obtain ⟨g, off, cap, hb, hr, hc, hf, hne⟩ := (h.step (s + 1)).open_cell hj
  have Hb := Lib.hid hb
  have c0 := hb.cell 0
  simp at c0
  generalize l.getD j 0 = x at *
  have t3 : (d != 0) = true := by simp; omega
  have T : (∃ V, wrap64 (x + d) = V ∧ decide (x < V) = false ∧ decide (0 < d) = true) ∨ (∃ V, wrap64 (x + d) = V ∧ decide (x < V) = true ∧ decide (0 < d) = false) := by
    rcases hV with hV | hV
    · exact .inr ⟨x + d + 18446744073709551616, by unfold wrap64; omega, by simp; omega, by simp; omega⟩
    · exact .inl ⟨x + d - 18446744073709551616, by unfold wrap64; omega, by simp; omega, by simp; omega⟩
  clear hb hr h hV hx hd
  rcases T with ⟨V, W, t1, t2⟩ | ⟨V, W, t1, t2⟩
  all_goals
    go_enter Tryd.func17, Tryd.ntmps17
    go_wp2_with (first
      | (go_at_call 64; refine (at_ok Hat.out _ _ (by omega) (by omega) s0 s1).mono ?_; rintro e w' ⟨rfl, rfl⟩)
      | (go_at_call 65; refine (wrap_some _ _ _ _ _).mono ?_; rintro e w' ⟨rfl, rfl⟩))
    go_ret2
    have st := (Stp.refl (fun _ => False) c (w.setCell ⟨p, 1, none⟩ (.int .i64 (s + 1)))).alloc (.cells #[.string ⟨#[97, 100, 100]⟩, .int .i64 j, .iface 119 (.int .i64 5)] 152) 1
    exact ⟨_, rfl, _, ((Stp.refl _ c w).setCell _ Hb.out.1).trans (st.mono (fun _ h => h.elim)), (Hat.out.step _).stp st id, ErrAt.newAt (by simp [World.setCell]) rfl⟩

end Go.Proofs.YtoifknfmamcimaaDoor
