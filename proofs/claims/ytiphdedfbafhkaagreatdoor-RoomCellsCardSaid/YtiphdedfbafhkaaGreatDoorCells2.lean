/- Contracts of the arena's functions New, Alloc, Load, Store, Swap: for every arena that is such (ArenaAt), the conditions of each beside it. -/
import Derived.Test.YtiphdedfbafhkaaGreatDoorCells
import Derived.Deep.DeepMust
namespace Go.Proofs.YtiphdedfbafhkaaGreatDoor
open Go.RowKit

theorem ArenaAt.stp {J : Nat → Prop} {c c' : Nat → Nat} {k : Nat} {w w' : World} {p : Nat} {l : List Int} {s : Int} (h : ArenaAt c k w p l s) (st : Stp J c c' w w') (hk : ¬ J k) : ArenaAt c' k w' p l s := by
  obtain ⟨ao, cap, hb, hr⟩ := h
  exact ⟨ao, cap, hb.stp st hk, hr.stp st hk⟩

/-- The count of steps goes up. -/
theorem ArenaAt.step {c : Nat → Nat} {k : Nat} {w : World} {p : Nat} {l : List Int} {s : Int} (h : ArenaAt c k w p l s) (s' : Int) : ArenaAt c k (w.setCell ⟨p, 1, none⟩ (.int .i64 s')) p l s' := by
  obtain ⟨ao, cap, hb, hr⟩ := h
  exact ⟨ao, cap, hb.set 1 _, hr.other _ (hr.ne_blk hb (by decide)) rfl⟩

theorem new_any (c : Nat → Nat) (k : Nat) (w : World) :
    Calls Tryz.prog 74 #[] w fun e w' => e = .returned (.pointer (some ⟨w.heap.size, 0, none⟩)) ∧ ∃ c', Stp (· = k) c c' w w' ∧ ArenaAt c' k w' w.heap.size [] 0 := by
  go_enter Tryz.func74, Tryz.ntmps74
  go_wp2
  go_ret
  refine ⟨rfl, _, (Stp.refl _ c w).alloc _ k, none, 0, Blk.new c k w _ _, Row.nil _ _ _ _ _⟩

theorem alloc_ok {c : Nat → Nat} {k : Nat} {w : World} {p : Nat} {l : List Int} {s : Int} (h : ArenaAt c k w p l s) (v : Int) (hl : (l.length : Int) < 2097152) :
    Calls Tryz.prog 36 #[.pointer (some ⟨p, 0, none⟩), .int .i64 v] w fun e w' => e = .returned (.tuple #[.int .i64 l.length, .nilIface]) ∧ ∃ c', Stp (· = k) c c' w w' ∧ ArenaAt c' k w' p (l ++ [v]) s := by
  obtain ⟨ao, cap, hb, hr⟩ := h
  have c0 := hb.cell 0
  simp at c0
  have Hb := Lib.hid hb
  have Hr := Lib.hid hr
  have hlt := hb.lt
  have hl' : decide ((2097152 : Int) ≤ l.length) = false := by simp; omega
  have Hl := Lib.hid hl
  clear hb hr hl
  go_enter Tryz.func36, Tryz.ntmps36
  go_wp2_with (at_builtin; refine wpList_append_row _ rfl (.tmp 26) (.tmp 28) 125 rfl (paint c w.heap.size k) k 2 (.int .i64 0) 1 8 Tryz.underlying125 Tryz.info2 rfl ao l.length cap (l.map (Value.int .i64)) rfl (Hr.out.alloc _ _) _ 1 [.int .i64 v] rfl (Src.one _ _ _) ?c1 ?c2 ?c3 ?_)
  case c1 => simp [Value.oneCell']
  case c2 => have := Hl.out; unfold maxLen; omega
  case c3 => have := Hl.out; omega
  intro ao' cap' w1 hr1 st1 ot1
  have hb1 := (Hb.out.alloc (.cells #[.int .i64 v] 2) k).kept (st1.col p (by simp; omega)) ot1 (Hr.out.ne_blk Hb.out (by decide))
  have d0 := hb1.cell 0
  have e0 := hb1.free 0
  simp at d0
  have Hb1 := Lib.hid hb1
  have Hr1 := Lib.hid hr1
  have Hst := Lib.hid st1
  have hlb := Hl.out
  clear hb1 hr1 st1 ot1 c0
  go_wp2
  go_ret2
  refine ⟨rfl, _, (((Stp.refl _ c w).alloc _ k).trans Hst.out).setCell _ Hb1.out.1, ao', cap', ?_, ?_⟩
  · simpa using Hb1.out.set 0 (.slice ao' (l.length + 1) cap')
  · simpa using Hr1.out.other _ (Hr1.out.ne_blk Hb1.out (by decide)) rfl

/-- What a read of cell j wants to know. -/
theorem ArenaAt.open_cell {c : Nat → Nat} {k : Nat} {w : World} {p : Nat} {l : List Int} {s : Int} (h : ArenaAt c k w p l s) {j : Nat} (hj : j < l.length) :
    ∃ g off cap, Blk c k w p [.slice (some ⟨g, off, none⟩) l.length cap, .int .i64 s] 127 ∧ Row c k w 2 1 (some ⟨g, off, none⟩) l.length cap (l.map (Value.int .i64)) ∧
      w.cell? ⟨g, off + j, none⟩ = some (.int .i64 (l.getD j 0)) ∧ w.frozen? ⟨g, off + j, none⟩ = false ∧ g ≠ p := by
  obtain ⟨ao, cap, hb, hr⟩ := h
  have hv : (l.map (Value.int .i64))[j]? = some (.int .i64 (l.getD j 0)) := by simp [List.getD, hj]
  obtain ⟨a, rfl, hs, hc, hf, ha, _⟩ := hr.cell hv
  obtain ⟨g, off, sp⟩ := a
  simp only at hs
  subst hs
  rw [ha] at hc hf
  exact ⟨g, off, cap, hb, hr, hc, hf, hr.ne_blk hb (by decide) _ rfl⟩

theorem load_ok {c : Nat → Nat} {k : Nat} {w : World} {p : Nat} {l : List Int} {s : Int} (h : ArenaAt c k w p l s) (j : Nat) (hj : j < l.length) (s0 : 0 ≤ s) (s1 : s < 4611686018427387904) :
    Calls Tryz.prog 37 #[.pointer (some ⟨p, 0, none⟩), .int .i64 j] w fun e w' => e = .returned (.tuple #[.int .i64 (l.getD j 0), .nilIface]) ∧ ∃ c', Stp (· = k) c c' w w' ∧ ArenaAt c' k w' p l (s + 1) := by
  have Hat := Lib.hid h
  obtain ⟨g, off, cap, hb, hr, hc, hf, hne⟩ := h.open_cell hj
  have Hb := Lib.hid hb
  have c0 := hb.cell 0
  simp at c0
  have hlt := hb.lt
  have hc1 : (w.setCell ⟨p, 1, none⟩ (.int .i64 (s + 1))).cell? ⟨g, off + j, none⟩ = some (.int .i64 (l.getD j 0)) := by
    rw [cell_other (by exact Ne.symm hne)]; exact hc
  clear hb hr h hc hf
  go_enter Tryz.func37, Tryz.ntmps37
  go_wp2_with (go_at_call 80; refine (at_ok Hat.out _ _ (by omega) (by omega) s0 s1).mono ?_; rintro e w' ⟨rfl, rfl⟩)
  go_ret2
  exact ⟨by simp [hj], _, (Stp.refl _ c w).setCell _ Hb.out.1, Hat.out.step _⟩

/-- An error's value: a number, or a fault around one. Faults have a colour of their own (1), which nobody turns. -/
def ErrAt (c : Nat → Nat) (w : World) (v : Value) (n : Int) : Prop :=
  v = .iface 98 (.int .i64 n) ∨ ∃ b op seq, v = .iface 179 (.pointer (some ⟨b, 0, none⟩)) ∧ Blk c 1 w b [.string op, .int .i64 seq, .iface 98 (.int .i64 n)] 181

theorem ErrAt.stp {J : Nat → Prop} {c c' : Nat → Nat} {w w' : World} {v : Value} {n : Int} (h : ErrAt c w v n) (st : Stp J c c' w w') (hk : ¬ J 1) : ErrAt c' w' v n := by
  rcases h with h | ⟨b, op, seq, h, hb⟩
  · exact .inl h
  · exact .inr ⟨b, op, seq, h, hb.stp st hk⟩

theorem ErrAt.new (c : Nat → Nat) (w : World) (op : ByteArray) (seq n : Int) : ErrAt (paint c w.heap.size 1) (w.alloc (.cells #[.string op, .int .i64 seq, .iface 98 (.int .i64 n)] 181)) (.iface 179 (.pointer (some ⟨w.heap.size, 0, none⟩))) n :=
  .inr ⟨_, op, seq, rfl, Blk.new c 1 w _ _⟩

theorem load_bad {c : Nat → Nat} {k : Nat} {w : World} {p : Nat} {l : List Int} {s : Int} (h : ArenaAt c k w p l s) (id : Int) (hid : id < 0 ∨ (l.length : Int) ≤ id) :
    Calls Tryz.prog 37 #[.pointer (some ⟨p, 0, none⟩), .int .i64 id] w fun e w' => ∃ ev, e = .returned (.tuple #[.int .i64 0, ev]) ∧ ∃ c', Stp (· = k) c c' w w' ∧ ArenaAt c' k w' p l s ∧ ErrAt c' w' ev 3 := by
  have Hat := Lib.hid h
  have Hid' := Lib.hid hid
  clear h hid
  go_enter Tryz.func37, Tryz.ntmps37
  go_wp2_with (go_at_call 80; refine (at_bad Hat.out _ _ Hid'.out).mono ?_; rintro e w' ⟨rfl, rfl⟩)
  go_ret2
  have st : Stp (fun _ => False) c (paint c w.heap.size 1) w _ := (Stp.refl _ c w).alloc (.cells #[.string ⟨#[108, 111, 97, 100]⟩, .int .i64 id, .iface 98 (.int .i64 3)] 181) 1
  exact ⟨_, rfl, _, st.mono (by simp), Hat.out.stp st (fun h => h), ErrAt.new _ _ _ _ _⟩

theorem load_nil (id : Int) (w : World) :
    Calls Tryz.prog 37 #[.pointer none, .int .i64 id] w fun e w' => e = .returned (.tuple #[.int .i64 0, .iface 98 (.int .i64 2)]) ∧ w = w' := by
  go_enter Tryz.func37, Tryz.ntmps37
  go_wp2_with (go_at_call 80; refine (at_none _ _ _).mono ?_; rintro e w' ⟨rfl, rfl⟩)
  go_ret2
  exact ⟨rfl, rfl⟩

theorem ArenaAt.put {c : Nat → Nat} {k : Nat} {w : World} {p : Nat} {l : List Int} {s : Int} {g off cap : Nat} (hb : Blk c k w p [.slice (some ⟨g, off, none⟩) l.length cap, .int .i64 s] 127) (hr : Row c k w 2 1 (some ⟨g, off, none⟩) l.length cap (l.map (Value.int .i64)))
    (j : Nat) (hj : j < l.length) (v : Int) : ArenaAt c k (w.setCell ⟨g, off + j, none⟩ (.int .i64 v)) p (l.set j v) s := by
  refine ⟨some ⟨g, off, none⟩, cap, by simpa using hb.other (p := ⟨g, off + j, none⟩) (.int .i64 v) (show g ≠ p from hr.ne_blk hb (by decide) ⟨g, off, none⟩ rfl), ?_⟩
  have := hr.set j (.int .i64 v) (by simpa using hj)
  simpa using this

theorem store_ok {c : Nat → Nat} {k : Nat} {w : World} {p : Nat} {l : List Int} {s : Int} (h : ArenaAt c k w p l s) (j : Nat) (v : Int) (hj : j < l.length) (s0 : 0 ≤ s) (s1 : s < 4611686018427387904) :
    Calls Tryz.prog 106 #[.pointer (some ⟨p, 0, none⟩), .int .i64 j, .int .i64 v] w fun e w' => e = .returned .nilIface ∧ ∃ c', Stp (· = k) c c' w w' ∧ ArenaAt c' k w' p (l.set j v) (s + 1) := by
  have Hat := Lib.hid h
  obtain ⟨g, off, cap, hb, hr, hc, hf, hne⟩ := (h.step (s + 1)).open_cell hj
  have Hb := Lib.hid hb
  have Hr := Lib.hid hr
  have c0 := hb.cell 0
  simp at c0
  clear hb hr h
  go_enter Tryz.func106, Tryz.ntmps106
  go_wp2_with (go_at_call 80; refine (at_ok Hat.out _ _ (by omega) (by omega) s0 s1).mono ?_; rintro e w' ⟨rfl, rfl⟩)
  go_ret
  obtain ⟨_, _, hb0, _⟩ := Hat.out
  exact ⟨rfl, _, ((Stp.refl _ c w).setCell _ hb0.1).setCell _ Hr.out.2.2.2.2.1, ArenaAt.put Hb.out Hr.out j hj v⟩

theorem store_bad {c : Nat → Nat} {k : Nat} {w : World} {p : Nat} {l : List Int} {s : Int} (h : ArenaAt c k w p l s) (id v : Int) (hid : id < 0 ∨ (l.length : Int) ≤ id) :
    Calls Tryz.prog 106 #[.pointer (some ⟨p, 0, none⟩), .int .i64 id, .int .i64 v] w fun e w' => ∃ ev, e = .returned ev ∧ ∃ c', Stp (· = k) c c' w w' ∧ ArenaAt c' k w' p l s ∧ ErrAt c' w' ev 3 := by
  have Hat := Lib.hid h
  have Hid' := Lib.hid hid
  clear h hid
  go_enter Tryz.func106, Tryz.ntmps106
  go_wp2_with (go_at_call 80; refine (at_bad Hat.out _ _ Hid'.out).mono ?_; rintro e w' ⟨rfl, rfl⟩)
  go_ret
  have st : Stp (fun _ => False) c (paint c w.heap.size 1) w _ := (Stp.refl _ c w).alloc (.cells #[.string ⟨#[115, 116, 111, 114, 101]⟩, .int .i64 id, .iface 98 (.int .i64 3)] 181) 1
  exact ⟨_, rfl, _, st.mono (by simp), Hat.out.stp st (fun h => h), ErrAt.new _ _ _ _ _⟩

theorem store_nil (id v : Int) (w : World) :
    Calls Tryz.prog 106 #[.pointer none, .int .i64 id, .int .i64 v] w fun e w' => e = .returned (.iface 98 (.int .i64 2)) ∧ w = w' := by
  go_enter Tryz.func106, Tryz.ntmps106
  go_wp2_with (go_at_call 80; refine (at_none _ _ _).mono ?_; rintro e w' ⟨rfl, rfl⟩)
  go_ret
  exact ⟨rfl, rfl⟩

theorem swap_no {c : Nat → Nat} {k : Nat} {w : World} {p : Nat} {l : List Int} {s : Int} (h : ArenaAt c k w p l s) (j : Nat) (old v : Int) (hj : j < l.length) (ho : l.getD j 0 ≠ old) (s0 : 0 ≤ s) (s1 : s < 4611686018427387904) :
    Calls Tryz.prog 123 #[.pointer (some ⟨p, 0, none⟩), .int .i64 j, .int .i64 old, .int .i64 v] w fun e w' => e = .returned (.tuple #[.bool false, .nilIface]) ∧ ∃ c', Stp (· = k) c c' w w' ∧ ArenaAt c' k w' p l (s + 1) := by
  have Hat := Lib.hid h
  obtain ⟨g, off, cap, hb, hr, hc, hf, hne⟩ := (h.step (s + 1)).open_cell hj
  have Hb := Lib.hid hb
  have c0 := hb.cell 0
  simp at c0
  generalize l.getD j 0 = x at *
  have ho' : (x != old) = true := by simpa using ho
  clear hb hr h ho
  go_enter Tryz.func123, Tryz.ntmps123
  go_wp2_with (go_at_call 80; refine (at_ok Hat.out _ _ (by omega) (by omega) s0 s1).mono ?_; rintro e w' ⟨rfl, rfl⟩)
  go_ret2
  exact ⟨rfl, _, (Stp.refl _ c w).setCell _ Hb.out.1, Hat.out.step _⟩

theorem swap_yes {c : Nat → Nat} {k : Nat} {w : World} {p : Nat} {l : List Int} {s : Int} (h : ArenaAt c k w p l s) (j : Nat) (old v : Int) (hj : j < l.length) (ho : l.getD j 0 = old) (s0 : 0 ≤ s) (s1 : s < 4611686018427387904) :
    Calls Tryz.prog 123 #[.pointer (some ⟨p, 0, none⟩), .int .i64 j, .int .i64 old, .int .i64 v] w fun e w' => e = .returned (.tuple #[.bool true, .nilIface]) ∧ ∃ c', Stp (· = k) c c' w w' ∧ ArenaAt c' k w' p (l.set j v) (s + 1) := by
  have Hat := Lib.hid h
  obtain ⟨g, off, cap, hb, hr, hc, hf, hne⟩ := (h.step (s + 1)).open_cell hj
  have Hb := Lib.hid hb
  have Hr := Lib.hid hr
  have c0 := hb.cell 0
  simp at c0
  rw [ho] at hc
  have ho' : (old != old) = false := by simp
  clear hb hr h ho
  go_enter Tryz.func123, Tryz.ntmps123
  go_wp2_with (go_at_call 80; refine (at_ok Hat.out _ _ (by omega) (by omega) s0 s1).mono ?_; rintro e w' ⟨rfl, rfl⟩)
  go_ret2
  exact ⟨rfl, _, ((Stp.refl _ c w).setCell _ Hb.out.1).setCell _ Hr.out.2.2.2.2.1, ArenaAt.put Hb.out Hr.out j hj v⟩
end Go.Proofs.YtiphdedfbafhkaaGreatDoor
