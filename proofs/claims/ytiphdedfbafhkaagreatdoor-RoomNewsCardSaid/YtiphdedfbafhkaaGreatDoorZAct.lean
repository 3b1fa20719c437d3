/- Contracts that the closing theorem wants (Act). No condition beyond each law's own. -/
import Derived.Test.YtiphdedfbafhkaaGreatDoorZBA
import Derived.Test.YtiphdedfbafhkaaGreatDoorZBB
import Derived.Lib.SliceRun
import Derived.Deep.QuietTactic
import Derived.BigQuiet
namespace Go.Proofs.YtiphdedfbafhkaaGreatDoor
open Go.RowKit

structure One where
  state : Int
  token : Bool
  wakes : Int

def One.cells (x : One) : List Value := [.int .i64 x.state, .bool x.token, .int .i64 x.wakes]
theorem One.len (x : One) : x.cells.length = 3 := rfl

def TableAt (c : Nat → Nat) (k : Nat) (w : World) (p : Nat) (l : List One) : Prop :=
  ∃ ao cap, Blk c k w p [.slice ao l.length cap] 130 ∧ Row c k w 175 3 ao l.length cap (l.flatMap One.cells)

theorem TableAt.stp {J : Nat → Prop} {c c' : Nat → Nat} {k : Nat} {w w' : World} {p : Nat} {l : List One} (h : TableAt c k w p l) (st : Stp J c c' w w') (hk : ¬ J k) : TableAt c' k w' p l := by
  obtain ⟨ao, cap, hb, hr⟩ := h
  exact ⟨ao, cap, hb.stp st hk, hr.stp st hk⟩

theorem Tryz.infoOne : (Tryz.prog.info? 175).map (fun i => (i.zero, i.size, i.bytes)) = some (some (.agg #[.int .i64 0, .bool false, .int .i64 0]), 3, 24) := by kernel_rfl

/-- What a look at an actor wants to know. -/
theorem TableAt.open_one {c : Nat → Nat} {k : Nat} {w : World} {p : Nat} {l : List One} (h : TableAt c k w p l) {j : Nat} {x : One} (hj : l[j]? = some x) :
    ∃ g off cap, Blk c k w p [.slice (some ⟨g, off, none⟩) l.length cap] 130 ∧ Row c k w 175 3 (some ⟨g, off, none⟩) l.length cap (l.flatMap One.cells) ∧
      w.cell? ⟨g, off + j * 3, none⟩ = some (.int .i64 x.state) ∧ w.cell? ⟨g, off + j * 3 + 1, none⟩ = some (.bool x.token) ∧ w.cell? ⟨g, off + j * 3 + 2, none⟩ = some (.int .i64 x.wakes) ∧
      w.frozen? ⟨g, off + j * 3, none⟩ = false ∧ w.frozen? ⟨g, off + j * 3 + 1, none⟩ = false ∧ w.frozen? ⟨g, off + j * 3 + 2, none⟩ = false ∧ g ≠ p ∧ j < l.length := by
  obtain ⟨ao, cap, hb, hr⟩ := h
  obtain ⟨g, off, rfl, c0, f0, _⟩ := hr.field One.len hj (f := 0) (v := .int .i64 x.state) rfl
  obtain ⟨g1, off1, e1, c1, f1, _⟩ := hr.field One.len hj (f := 1) (v := .bool x.token) rfl
  obtain ⟨g2, off2, e2, c2, f2, _⟩ := hr.field One.len hj (f := 2) (v := .int .i64 x.wakes) rfl
  simp only [Option.some.injEq, Addr.mk.injEq, and_true] at e1 e2
  obtain ⟨rfl, rfl⟩ := e1
  obtain ⟨rfl, rfl⟩ := e2
  exact ⟨g, off, cap, hb, hr, c0, c1, c2, f0, f1, f2, hr.ne_blk hb (by decide) _ rfl, (List.getElem?_eq_some_iff.1 hj).1⟩

/-- A store into an actor's field. -/
theorem TableAt.pair {c : Nat → Nat} {k : Nat} {w : World} {p : Nat} {l : List One} {g off cap : Nat} (hb : Blk c k w p [.slice (some ⟨g, off, none⟩) l.length cap] 130) (hr : Row c k w 175 3 (some ⟨g, off, none⟩) l.length cap (l.flatMap One.cells))
    {j : Nat} {x : One} (y : One) (hx : l[j]? = some x) (f : Nat) (v : Value) (hf : f < 3) (hy : y.cells = x.cells.set f v) :
    Blk c k (w.setCell ⟨g, off + j * 3 + f, none⟩ v) p [.slice (some ⟨g, off, none⟩) (l.set j y).length cap] 130 ∧ Row c k (w.setCell ⟨g, off + j * 3 + f, none⟩ v) 175 3 (some ⟨g, off, none⟩) (l.set j y).length cap ((l.set j y).flatMap One.cells) := by
  rw [Nat.add_assoc, List.length_set]
  exact ⟨hb.other (p := ⟨g, off + (j * 3 + f), none⟩) v (show g ≠ p from hr.ne_blk hb (by decide) ⟨g, off, none⟩ rfl), hr.setField One.len hx hf hy⟩

theorem TableAt.put {c : Nat → Nat} {k : Nat} {w : World} {p : Nat} {l : List One} {g off cap : Nat} (hb : Blk c k w p [.slice (some ⟨g, off, none⟩) l.length cap] 130) (hr : Row c k w 175 3 (some ⟨g, off, none⟩) l.length cap (l.flatMap One.cells))
    {j : Nat} {x : One} (y : One) (hx : l[j]? = some x) (f : Nat) (v : Value) (hf : f < 3) (hy : y.cells = x.cells.set f v) : TableAt c k (w.setCell ⟨g, off + j * 3 + f, none⟩ v) p (l.set j y) :=
  let h := TableAt.pair hb hr y hx f v hf hy
  ⟨_, _, h.1, h.2⟩

theorem anew_any (c : Nat → Nat) (k : Nat) (w : World) :
    Calls Tryz.prog 75 #[] w fun e w' => e = .returned (.pointer (some ⟨w.heap.size, 0, none⟩)) ∧ ∃ c', Stp (· = k) c c' w w' ∧ TableAt c' k w' w.heap.size [] := by
  go_enter Tryz.func75, Tryz.ntmps75
  go_wp2
  go_ret
  exact ⟨rfl, _, (Stp.refl _ c w).alloc _ k, none, 0, Blk.new c k w _ _, Row.nil _ _ _ _ _⟩

theorem aat_ok {c : Nat → Nat} {k : Nat} {w : World} {p : Nat} {l : List One} (h : TableAt c k w p l) (op : ByteArray) (j : Nat) {x : One} (hj : l[j]? = some x) (hx : x.state ≠ 2) :
    Calls Tryz.prog 108 #[.pointer (some ⟨p, 0, none⟩), .string op, .int .i64 j] w fun e w' => e = .returned .nilIface ∧ w = w' := by
  obtain ⟨g, off, cap, hb, hr, c0, _, _, _, _, _, _, hlt⟩ := h.open_one hj
  have b0 := hb.cell 0
  simp at b0
  have hx' : (x.state == 2) = false := by simpa using hx
  have h0 : decide ((j : Int) < 0) = false := by simp
  clear hb hr h hj hx
  go_enter Tryz.func108, Tryz.ntmps108
  go_wp2
  go_ret
  exact ⟨rfl, rfl⟩

/-- What is wrong with an actor. -/
def wrongAt (l : List One) (id : Int) : Int := if id < 0 ∨ (l.length : Int) ≤ id then 3 else match l[id.toNat]? with | some x => if x.state = 2 then 17 else 0 | none => 3

theorem aat_bad {c : Nat → Nat} {k : Nat} {w : World} {p : Nat} {l : List One} (h : TableAt c k w p l) (op : ByteArray) (id : Int) (hw : wrongAt l id ≠ 0) :
    Calls Tryz.prog 108 #[.pointer (some ⟨p, 0, none⟩), .string op, .int .i64 id] w fun e w' => ∃ t v, e = .returned (.iface t v) ∧ ∃ c', Stp (fun _ => False) c c' w w' ∧ ErrAt c' w' (.iface t v) (wrongAt l id) := by
  by_cases h0 : id < 0
  · have e3 : wrongAt l id = 3 := by simp [wrongAt, h0]
    rw [e3]
    have h0' : decide (id < 0) = true := by simpa using h0
    clear hw e3
    go_enter Tryz.func108, Tryz.ntmps108
    go_wp2_with (go_at_call 50; refine (wrap_some _ _ _ _ _).mono ?_; rintro e w' ⟨rfl, rfl⟩)
    go_ret
    exact ⟨_, _, rfl, _, (Stp.refl _ c w).alloc _ 1, ErrAt.new _ _ _ _ _⟩
  · have h0' : decide (id < 0) = false := by simpa using h0
    by_cases h1 : (l.length : Int) ≤ id
    · have e3 : wrongAt l id = 3 := by simp [wrongAt, h1]
      rw [e3]
      obtain ⟨ao, cap, hb, hr⟩ := h
      have b0 := hb.cell 0
      simp at b0
      clear hb hr hw e3 h0
      go_enter Tryz.func108, Tryz.ntmps108
      go_wp2_with (go_at_call 50; refine (wrap_some _ _ _ _ _).mono ?_; rintro e w' ⟨rfl, rfl⟩)
      go_ret
      exact ⟨_, _, rfl, _, (Stp.refl _ c w).alloc _ 1, ErrAt.new _ _ _ _ _⟩
    · obtain ⟨j, rfl⟩ := Int.eq_ofNat_of_zero_le (show 0 ≤ id by omega)
      have hjl : j < l.length := by omega
      have hj : l[j]? = some l[j] := List.getElem?_eq_getElem hjl
      have hx : l[j].state = 2 := by
        by_cases hx : l[j].state = 2
        · exact hx
        · exact absurd (by simp [wrongAt, hj, hx]; omega) hw
      have e17 : wrongAt l (j : Int) = 17 := by simp [wrongAt, hj, hx]; omega
      rw [e17]
      obtain ⟨g, off, cap, hb, hr, c0, _, _, _, _, _, _, hlt⟩ := h.open_one hj
      have b0 := hb.cell 0
      simp at b0
      rw [hx] at c0
      clear hb hr h hj hx hw e17 h0 h1
      go_enter Tryz.func108, Tryz.ntmps108
      go_wp2_with (go_at_call 50; refine (wrap_some _ _ _ _ _).mono ?_; rintro e w' ⟨rfl, rfl⟩)
      go_ret
      exact ⟨_, _, rfl, _, (Stp.refl _ c w).alloc _ 1, ErrAt.new _ _ _ _ _⟩

theorem aadd_ok {c : Nat → Nat} {k : Nat} {w : World} {p : Nat} {l : List One} (h : TableAt c k w p l) (hl : (l.length : Int) < 64) :
    Calls Tryz.prog 78 #[.pointer (some ⟨p, 0, none⟩)] w fun e w' => e = .returned (.tuple #[.int .i64 l.length, .nilIface]) ∧ ∃ c', Stp (· = k) c c' w w' ∧ TableAt c' k w' p (l ++ [⟨0, false, 0⟩]) := by
  obtain ⟨ao, cap, hb, hr⟩ := h
  have c0 := hb.cell 0
  simp at c0
  have Hb := Lib.hid hb
  have Hr := Lib.hid hr
  have hlt := hb.lt
  clear hb hr
  go_enter Tryz.func78, Tryz.ntmps78
  go_wp2_with (at_builtin; refine wpList_append_row _ rfl (.tmp 24) (.tmp 26) 128 rfl (paint c w.heap.size k) k 175 (.agg #[.int .i64 0, .bool false, .int .i64 0]) 3 24 Tryz.underlying128 Tryz.infoOne rfl ao l.length cap (l.flatMap One.cells) rfl (Hr.out.alloc _ _) (.slice (some ⟨w.heap.size, 0, none⟩) 1 1) 1 [.int .i64 0, .bool false, .int .i64 0] rfl (Src.new w 3 1 [.int .i64 0, .bool false, .int .i64 0] 175 rfl) ?c1 ?c2 ?c3 ?_)
  case c1 => simp [Value.oneCell']
  case c2 => unfold maxLen; omega
  case c3 => omega
  intro ao' cap' w1 hr1 st1 ot1
  have hb1 := (Hb.out.alloc (.cells #[.int .i64 0, .bool false, .int .i64 0] 175) k).kept (st1.col p (by simp; omega)) ot1 (Hr.out.ne_blk Hb.out (by decide))
  have d0 := hb1.cell 0
  have e0 := hb1.free 0
  simp at d0
  have Hb1 := Lib.hid hb1
  have Hr1 := Lib.hid hr1
  have Hst := Lib.hid st1
  clear hb1 hr1 st1 ot1 c0
  go_wp2
  go_ret2
  refine ⟨rfl, _, (((Stp.refl _ c w).alloc _ k).trans Hst.out).setCell _ Hb1.out.1, ao', cap', ?_, ?_⟩
  · simpa using Hb1.out.set 0 (.slice ao' (l.length + 1) cap')
  · have := Hr1.out.other (p := ⟨p, 0, none⟩) (.slice ao' (l.length + 1) cap') (Hr1.out.ne_blk Hb1.out (by decide)) rfl
    simpa [One.cells] using this

theorem aadd_full {c : Nat → Nat} {k : Nat} {w : World} {p : Nat} {l : List One} (h : TableAt c k w p l) (hl : 64 ≤ (l.length : Int)) :
    Calls Tryz.prog 78 #[.pointer (some ⟨p, 0, none⟩)] w fun e w' => ∃ t v, e = .returned (.tuple #[.int .i64 0, .iface t v]) ∧ ∃ c', Stp (fun _ => False) c c' w w' ∧ ErrAt c' w' (.iface t v) 8 := by
  obtain ⟨ao, cap, hb, hr⟩ := h
  have c0 := hb.cell 0
  simp at c0
  clear hb hr
  have hl2 : (l.length : Int) ≤ 140737488355328 ∨ True := .inr trivial
  clear hl2
  go_enter Tryz.func78, Tryz.ntmps78
  go_wp2_with (go_at_call 50; refine (wrap_some _ _ _ _ _).mono ?_; rintro e w' ⟨rfl, rfl⟩)
  go_ret2
  exact ⟨_, _, rfl, _, (Stp.refl _ c w).alloc _ 1, ErrAt.new _ _ _ _ _⟩

/-- Park of one with a token. -/
theorem apark_token {c : Nat → Nat} {k : Nat} {w : World} {p : Nat} {l : List One} (h : TableAt c k w p l) (j : Nat) {x : One} (hj : l[j]? = some x) (hx : x.state ≠ 2) (ht : x.token = true) :
    Calls Tryz.prog 61 #[.pointer (some ⟨p, 0, none⟩), .int .i64 j] w fun e w' => e = .returned (.tuple #[.bool false, .nilIface]) ∧ ∃ c', Stp (· = k) c c' w w' ∧ TableAt c' k w' p (l.set j { x with token := false }) := by
  have Hat := Lib.hid h
  have Hj := Lib.hid hj
  have Hx := Lib.hid hx
  obtain ⟨g, off, cap, hb, hr, _, c1, _, _, f1, _, hne, hlt⟩ := h.open_one hj
  rw [ht] at c1
  have b0 := hb.cell 0
  simp at b0
  have Hb := Lib.hid hb
  have Hr := Lib.hid hr
  clear hb hr h hj hx ht
  go_enter Tryz.func61, Tryz.ntmps61
  go_wp2_with (go_at_call 108; refine (aat_ok Hat.out _ _ Hj.out Hx.out).mono ?_; rintro e w' ⟨rfl, rfl⟩)
  go_ret2
  exact ⟨rfl, _, (Stp.refl _ c w).setCell _ Hr.out.2.2.2.2.1, TableAt.put Hb.out Hr.out _ Hj.out 1 _ (by decide) rfl⟩

/-- Park of one without a token. -/
theorem apark_yes {c : Nat → Nat} {k : Nat} {w : World} {p : Nat} {l : List One} (h : TableAt c k w p l) (j : Nat) {x : One} (hj : l[j]? = some x) (hx : x.state ≠ 2) (ht : x.token = false) :
    Calls Tryz.prog 61 #[.pointer (some ⟨p, 0, none⟩), .int .i64 j] w fun e w' => e = .returned (.tuple #[.bool true, .nilIface]) ∧ ∃ c', Stp (· = k) c c' w w' ∧ TableAt c' k w' p (l.set j { x with state := 1 }) := by
  have Hat := Lib.hid h
  have Hj := Lib.hid hj
  have Hx := Lib.hid hx
  obtain ⟨g, off, cap, hb, hr, c0, c1, _, f0, _, _, hne, hlt⟩ := h.open_one hj
  rw [ht] at c1
  have b0 := hb.cell 0
  simp at b0
  have Hb := Lib.hid hb
  have Hr := Lib.hid hr
  clear hb hr h hj hx ht
  go_enter Tryz.func61, Tryz.ntmps61
  go_wp2_with (go_at_call 108; refine (aat_ok Hat.out _ _ Hj.out Hx.out).mono ?_; rintro e w' ⟨rfl, rfl⟩)
  go_ret2
  exact ⟨rfl, _, (Stp.refl _ c w).setCell _ Hr.out.2.2.2.2.1, TableAt.put Hb.out Hr.out { x with state := 1 } Hj.out 0 (.int .i64 1) (by decide) rfl⟩

/-- Wake of a parked one. -/
theorem awake_parked {c : Nat → Nat} {k : Nat} {w : World} {p : Nat} {l : List One} (h : TableAt c k w p l) (j : Nat) {x : One} (hj : l[j]? = some x) (hx : x.state = 1) (h0 : 0 ≤ x.wakes) (h1 : x.wakes < 4611686018427387904) :
    Calls Tryz.prog 64 #[.pointer (some ⟨p, 0, none⟩), .int .i64 j] w fun e w' => e = .returned (.tuple #[.bool true, .nilIface]) ∧ ∃ c', Stp (· = k) c c' w w' ∧ TableAt c' k w' p (l.set j { x with state := 0, wakes := x.wakes + 1 }) := by
  have Hat := Lib.hid h
  have Hj := Lib.hid hj
  have Hx := Lib.hid hx
  obtain ⟨g, off, cap, hb, hr, c0, c1, c2, f0, _, f2, hne, hlt⟩ := h.open_one hj
  rw [hx] at c0
  have b0 := hb.cell 0
  simp at b0
  have Hb := Lib.hid hb
  have Hr := Lib.hid hr
  clear hb hr h hj hx
  go_enter Tryz.func64, Tryz.ntmps64
  go_wp2_with (go_at_call 108; refine (aat_ok Hat.out _ _ Hj.out (by rw [Hx.out]; decide)).mono ?_; rintro e w' ⟨rfl, rfl⟩)
  go_ret2
  have t1 := TableAt.pair Hb.out Hr.out { x with wakes := x.wakes + 1 } Hj.out 2 (.int .i64 (x.wakes + 1)) (by decide) rfl
  have t2 := TableAt.put t1.1 t1.2 (j := j) (x := { x with wakes := x.wakes + 1 }) { x with state := 0, wakes := x.wakes + 1 } (by simp [hlt]) 0 (.int .i64 0) (by decide) rfl
  refine ⟨rfl, _, ((Stp.refl _ c w).setCell _ Hr.out.2.2.2.2.1).setCell _ Hr.out.2.2.2.2.1, ?_⟩
  simpa using t2

/-- Wake of a ready one. -/
theorem awake_ready {c : Nat → Nat} {k : Nat} {w : World} {p : Nat} {l : List One} (h : TableAt c k w p l) (j : Nat) {x : One} (hj : l[j]? = some x) (hx : x.state ≠ 2) (hx1 : x.state ≠ 1) (h0 : 0 ≤ x.wakes) (h1 : x.wakes < 4611686018427387904) :
    Calls Tryz.prog 64 #[.pointer (some ⟨p, 0, none⟩), .int .i64 j] w fun e w' => e = .returned (.tuple #[.bool false, .nilIface]) ∧ ∃ c', Stp (· = k) c c' w w' ∧ TableAt c' k w' p (l.set j { x with token := true, wakes := x.wakes + 1 }) := by
  have Hat := Lib.hid h
  have Hj := Lib.hid hj
  have Hx := Lib.hid hx
  have hx1' : (x.state == 1) = false := by simpa using hx1
  obtain ⟨g, off, cap, hb, hr, c0, c1, c2, f0, f1, f2, hne, hlt⟩ := h.open_one hj
  have b0 := hb.cell 0
  simp at b0
  have Hb := Lib.hid hb
  have Hr := Lib.hid hr
  clear hb hr h hj hx hx1
  go_enter Tryz.func64, Tryz.ntmps64
  go_wp2_with (go_at_call 108; refine (aat_ok Hat.out _ _ Hj.out Hx.out).mono ?_; rintro e w' ⟨rfl, rfl⟩)
  go_ret2
  have t1 := TableAt.pair Hb.out Hr.out { x with wakes := x.wakes + 1 } Hj.out 2 (.int .i64 (x.wakes + 1)) (by decide) rfl
  have t2 := TableAt.put t1.1 t1.2 (j := j) (x := { x with wakes := x.wakes + 1 }) { x with token := true, wakes := x.wakes + 1 } (by simp [hlt]) 1 (.bool true) (by decide) rfl
  refine ⟨rfl, _, ((Stp.refl _ c w).setCell _ Hr.out.2.2.2.2.1).setCell _ Hr.out.2.2.2.2.1, ?_⟩
  simpa using t2

theorem awake_bad {c : Nat → Nat} {k : Nat} {w : World} {p : Nat} {l : List One} (h : TableAt c k w p l) (id : Int) (hw : wrongAt l id ≠ 0) :
    Calls Tryz.prog 64 #[.pointer (some ⟨p, 0, none⟩), .int .i64 id] w fun e w' => ∃ ev, e = .returned (.tuple #[.bool false, ev]) ∧ ∃ c', Stp (fun _ => False) c c' w w' ∧ ErrAt c' w' ev (wrongAt l id) := by
  have Hat := Lib.hid h
  have Hw := Lib.hid hw
  clear h hw
  go_enter Tryz.func64, Tryz.ntmps64
  go_wp2_with (go_at_call 108; refine (aat_bad Hat.out _ _ Hw.out).mono ?_; rintro e w' ⟨t, v, rfl, c', st, he⟩)
  go_ret2
  exact ⟨_, rfl, c', st, he⟩

theorem astate_in {c : Nat → Nat} {k : Nat} {w : World} {p : Nat} {l : List One} (h : TableAt c k w p l) (j : Nat) {x : One} (hj : l[j]? = some x) :
    Calls Tryz.prog 47 #[.pointer (some ⟨p, 0, none⟩), .int .i64 j] w fun e w' => e = .returned (.int .i64 x.state) ∧ w = w' := by
  obtain ⟨g, off, cap, hb, hr, c0, _, _, _, _, _, hne, hlt⟩ := h.open_one hj
  have b0 := hb.cell 0
  simp at b0
  have h0 : decide ((j : Int) < 0) = false := by simp
  clear hb hr h hj
  go_enter Tryz.func47, Tryz.ntmps47
  go_wp2
  go_ret
  exact ⟨rfl, rfl⟩

end Go.Proofs.YtiphdedfbafhkaaGreatDoor

namespace Go.Proofs.YtiphdedfbafhkaaGreatDoor
open Go.RowKit

/-- The ready ones among the first `n`. -/
def readyTo (l : List One) : Nat → List Int
  | 0 => []
  | n + 1 => readyTo l n ++ (match l[n]? with | some x => if x.state = 0 then [(n : Int)] else [] | none => [])

def RunRel (c : Nat → Nat) (kr : Nat) (w : World) (l : List One) (out i : Value) (wr : World) : Prop :=
  ∃ c' j ao cap, i = .int .i64 (j : Nat) ∧ j ≤ l.length ∧ out = .slice ao (readyTo l j).length cap ∧ Row c' kr wr 3 1 ao (readyTo l j).length cap ((readyTo l j).map (Value.int .i64)) ∧ Stp (· = kr) c c' w wr

end Go.Proofs.YtiphdedfbafhkaaGreatDoor

namespace Go.Proofs.YtiphdedfbafhkaaGreatDoor
open Go.RowKit

theorem ahalt_ok {c : Nat → Nat} {k : Nat} {w : World} {p : Nat} {l : List One} (h : TableAt c k w p l) (j : Nat) {x : One} (hj : l[j]? = some x) (hx : x.state ≠ 2) :
    Calls Tryz.prog 67 #[.pointer (some ⟨p, 0, none⟩), .int .i64 j] w fun e w' => e = .returned .nilIface ∧ ∃ c', Stp (· = k) c c' w w' ∧ TableAt c' k w' p (l.set j ⟨2, false, x.wakes⟩) := by
  have Hat := Lib.hid h
  have Hj := Lib.hid hj
  have Hx := Lib.hid hx
  obtain ⟨g, off, cap, hb, hr, c0, c1, c2, f0, f1, f2, hne, hlt⟩ := h.open_one hj
  have b0 := hb.cell 0
  simp at b0
  have Hb := Lib.hid hb
  have Hr := Lib.hid hr
  clear hb hr h hj hx
  go_enter Tryz.func67, Tryz.ntmps67
  go_wp2_with (go_at_call 108; refine (aat_ok Hat.out _ _ Hj.out Hx.out).mono ?_; rintro e w' ⟨rfl, rfl⟩)
  go_region
  all_goals
    go_wp2
    go_ret
    have t1 := TableAt.pair Hb.out Hr.out { x with state := 2 } Hj.out 0 (.int .i64 2) (by decide) rfl
    have t2 := TableAt.pair t1.1 t1.2 (j := j) (x := { x with state := 2 }) { x with state := 2, token := false } (by simp [hlt]) 1 (.bool false) (by decide) rfl
    have t3 := TableAt.put t2.1 t2.2 (j := j) (x := { x with state := 2, token := false }) ⟨2, false, x.wakes⟩ (by simp [hlt]) 2 (.int .i64 x.wakes) (by decide) rfl
    refine ⟨rfl, _, ((((Stp.refl _ c w).setCell _ Hr.out.2.2.2.2.1).setCell _ Hr.out.2.2.2.2.1).setCell _ Hr.out.2.2.2.2.1).drew, ?_⟩
    have t4 := t3.stp ((Stp.refl (fun _ => False) c _).drew) id
    simpa using t4

theorem ahalt_bad {c : Nat → Nat} {k : Nat} {w : World} {p : Nat} {l : List One} (h : TableAt c k w p l) (id : Int) (hw : wrongAt l id ≠ 0) :
    Calls Tryz.prog 67 #[.pointer (some ⟨p, 0, none⟩), .int .i64 id] w fun e w' => ∃ ev, e = .returned ev ∧ ∃ c', Stp (fun _ => False) c c' w w' ∧ ErrAt c' w' ev (wrongAt l id) := by
  have Hat := Lib.hid h
  have Hw := Lib.hid hw
  clear h hw
  go_enter Tryz.func67, Tryz.ntmps67
  go_wp2_with (go_at_call 108; refine (aat_bad Hat.out _ _ Hw.out).mono ?_; rintro e w' ⟨t, v, rfl, c', st, he⟩)
  go_ret
  exact ⟨_, rfl, c', st, he⟩

theorem atoken_in {c : Nat → Nat} {k : Nat} {w : World} {p : Nat} {l : List One} (h : TableAt c k w p l) (j : Nat) {x : One} (hj : l[j]? = some x) :
    Calls Tryz.prog 48 #[.pointer (some ⟨p, 0, none⟩), .int .i64 j] w fun e w' => e = .returned (.bool x.token) ∧ w = w' := by
  obtain ⟨g, off, cap, hb, hr, _, c1, _, _, _, _, hne, hlt⟩ := h.open_one hj
  have b0 := hb.cell 0
  simp at b0
  have h0 : decide (0 ≤ (j : Int)) = true := by simp
  have h1 : decide ((j : Int) < (l.length : Int)) = true := by simp; omega
  clear hb hr h hj
  go_enter Tryz.func48, Tryz.ntmps48
  go_wp2
  go_ret
  exact ⟨rfl, rfl⟩

theorem alen_any {c : Nat → Nat} {k : Nat} {w : World} {p : Nat} {l : List One} (h : TableAt c k w p l) :
    Calls Tryz.prog 20 #[.pointer (some ⟨p, 0, none⟩)] w fun e w' => e = .returned (.int .i64 l.length) ∧ w = w' := by
  obtain ⟨ao, cap, hb, hr⟩ := h
  have b0 := hb.cell 0
  simp at b0
  clear hb hr
  go_enter Tryz.func20, Tryz.ntmps20
  go_wp2
  go_ret
  exact ⟨rfl, rfl⟩

/-- The place that any number picks among some. -/
def pickAt (p : Int) (n : Nat) : Nat := (p % n).toNat

end Go.Proofs.YtiphdedfbafhkaaGreatDoor

namespace Go.Proofs.YtiphdedfbafhkaaGreatDoor
open Go.RowKit

structure Tm where
  at_ : Int
  who : Int

def Tm.cells (x : Tm) : List Value := [.int .i64 x.at_, .int .i64 x.who]
theorem Tm.len (x : Tm) : x.cells.length = 2 := rfl

theorem tm_one (l : List Tm) : ∀ u ∈ l.flatMap Tm.cells, u.oneCell' = true := by
  intro u hu
  obtain ⟨x, _, hx⟩ := List.mem_flatMap.1 hu
  simp [Tm.cells] at hx
  rcases hx with rfl | rfl <;> rfl

theorem Tryz.infoTimer : (Tryz.prog.info? 196).map (fun i => (i.zero, i.size, i.bytes)) = some (some (.agg #[.int .i64 0, .int .i64 0]), 2, 16) := by kernel_rfl
theorem Tryz.infoIntK : (Tryz.prog.info? 3).map (fun i => (i.zero, i.size, i.bytes)) = some (some (.int .i64 0), 1, 8) := by kernel_rfl

/-- A clock: its block of colour k, its timers' array of colour k + 1. -/
structure ClockIs (c : Nat → Nat) (k : Nat) (w : World) (p : Nat) (now : Int) (l : List Tm) (n : Nat) (ao : Option Addr) (cap : Nat) : Prop where
  hb : Blk c k w p [.int .i64 now, .slice ao n cap] 133
  hr : Row c (k + 1) w 196 2 ao n cap (l.flatMap Tm.cells)
  len : l.length = n

def ClockAt (c : Nat → Nat) (k : Nat) (w : World) (p : Nat) (now : Int) (l : List Tm) : Prop := ∃ n ao cap, ClockIs c k w p now l n ao cap

theorem ClockAt.stp {J : Nat → Prop} {c c' : Nat → Nat} {k : Nat} {w w' : World} {p : Nat} {now : Int} {l : List Tm} (h : ClockAt c k w p now l) (st : Stp J c c' w w') (h0 : ¬ J k) (h1 : ¬ J (k + 1)) : ClockAt c' k w' p now l := by
  obtain ⟨n, ao, cap, hb, hr, hl⟩ := h
  exact ⟨n, ao, cap, hb.stp st h0, hr.stp st h1, hl⟩

theorem know_any {c : Nat → Nat} {k : Nat} {w : World} {p : Nat} {now : Int} {l : List Tm} (h : ClockAt c k w p now l) :
    Calls Tryz.prog 22 #[.pointer (some ⟨p, 0, none⟩)] w fun e w' => e = .returned (.int .i64 now) ∧ w = w' := by
  obtain ⟨n, ao, cap, hb, hr, hl⟩ := h
  have c0 := hb.cell 0
  simp at c0
  clear hb hr hl
  go_enter Tryz.func22, Tryz.ntmps22
  go_wp2
  go_ret
  exact ⟨rfl, rfl⟩

theorem kwait_any {c : Nat → Nat} {k : Nat} {w : World} {p : Nat} {now : Int} {l : List Tm} (h : ClockAt c k w p now l) :
    Calls Tryz.prog 101 #[.pointer (some ⟨p, 0, none⟩)] w fun e w' => e = .returned (.int .i64 l.length) ∧ w = w' := by
  obtain ⟨n, ao, cap, hb, hr, hl⟩ := h
  have c1 := hb.cell 1
  simp at c1
  rw [hl]
  clear hb hr hl
  go_enter Tryz.func101, Tryz.ntmps101
  go_wp2
  go_ret
  exact ⟨rfl, rfl⟩

end Go.Proofs.YtiphdedfbafhkaaGreatDoor

namespace Go.Proofs.YtiphdedfbafhkaaGreatDoor
open Go.RowKit

theorem Row.zero {c : Nat → Nat} {k : Nat} {w : World} {e : TypeId} {size : Nat} {a : Addr} {n cap : Nat} {xs : List Value} (h : Row c k w e size (some a) n cap xs) : Row c k w e size (some a) 0 0 [] := by
  obtain ⟨h1, h2, h3, hs, hc, cur, hb, hl, hx⟩ := h
  exact ⟨by simp, Nat.le_refl _, Nat.zero_le _, hs, hc, cur, hb, by omega, by simp⟩

theorem ktick_bad {c : Nat → Nat} {k : Nat} {w : World} {p : Nat} {now : Int} {l : List Tm} (h : ClockAt c k w p now l) (d : Int) (hn : 0 ≤ now ∧ now ≤ 1099511627776) (er : Int) (he : (d < 1 ∧ er = 1) ∨ (1 ≤ d ∧ 1099511627776 - now < d ∧ er = 5)) :
    Calls Tryz.prog 65 #[.pointer (some ⟨p, 0, none⟩), .int .i64 d] w fun e w' => ∃ ev, e = .returned (.tuple #[.slice none 0 0, ev]) ∧ ∃ c', Stp (fun _ => False) c c' w w' ∧ ErrAt c' w' ev er := by
  obtain ⟨n, ao, cap, hb, hr, hl⟩ := h
  have c0 := hb.cell 0
  simp at c0
  have W : wrap64 (1099511627776 - now) = 1099511627776 - now := IntWalk.wrap64_in _ ⟨by omega, by omega⟩
  rcases (show (decide (d < 1) = true ∧ er = 1) ∨ (decide (d < 1) = false ∧ decide (1099511627776 - now < d) = true ∧ er = 5) by
    rcases he with ⟨h1, h2⟩ | ⟨h1, h2, h3⟩
    · exact .inl ⟨by simpa using h1, h2⟩
    · exact .inr ⟨by simp; omega, by simpa using h2, h3⟩) with ⟨t1, e⟩ | ⟨t1, t2, e⟩
  all_goals
    subst e
    clear hb hr hl he hn
    go_enter Tryz.func65, Tryz.ntmps65
    go_wp2_with (go_at_call 50; refine (wrap_some _ _ _ _ _).mono ?_; rintro e w' ⟨rfl, rfl⟩)
    go_ret2
    exact ⟨_, rfl, _, (Stp.refl _ c w).alloc _ 1, ErrAt.new _ _ _ _ _⟩

def lenOfV : Value → Nat
  | .slice _ n _ => n
  | _ => 0

def KJ (k kr : Nat) (j : Nat) : Prop := j = k ∨ j = kr

def TickRel (c : Nat → Nat) (k kr : Nat) (w : World) (p : Nat) (now : Int) (l : List Tm) (v : Value) (wr : World) : Prop :=
  ∃ (c' : Nat → Nat) (t n : Nat) (ao : Option Addr) (cap : Nat) (oo : Option Addr) (oc : Nat), v = .slice oo t oc ∧ t ≤ l.length ∧ (∀ x ∈ l.take t, x.at_ ≤ now) ∧ ClockIs c' k wr p now (l.drop t) n ao cap ∧
    Row c' kr wr 3 1 oo t oc ((l.take t).map fun x => .int .i64 x.who) ∧ Stp (KJ k kr) c c' w wr

theorem while_split {l : List Tm} {now : Int} {t : Nat} (h1 : ∀ x ∈ l.take t, x.at_ ≤ now) (h2 : ∀ x, l[t]? = some x → ¬ x.at_ ≤ now) :
    l.takeWhile (fun x => decide (x.at_ ≤ now)) = l.take t ∧ l.dropWhile (fun x => decide (x.at_ ≤ now)) = l.drop t := by
  have hd : (l.drop t).takeWhile (fun x => decide (x.at_ ≤ now)) = [] ∧ (l.drop t).dropWhile (fun x => decide (x.at_ ≤ now)) = l.drop t := by
    cases hq : l.drop t with
    | nil => simp
    | cons y r =>
      have hy : l[t]? = some y := by rw [← List.head?_drop, hq]; rfl
      simp [h2 y hy]
  have ht : ∀ x ∈ l.take t, decide (x.at_ ≤ now) = true := fun x hx => by simpa using h1 x hx
  have e : l = l.take t ++ l.drop t := (List.take_append_drop t l).symm
  constructor
  · conv => lhs; rw [e]
    rw [List.takeWhile_append_of_pos ht, hd.1, List.append_nil]
  · conv => lhs; rw [e]
    rw [List.dropWhile_append_of_pos ht, hd.2]

set_option maxRecDepth 100000 in
set_option maxHeartbeats 2000000 in
theorem ktick_ok {c : Nat → Nat} {k : Nat} {w : World} {p : Nat} {now : Int} {l : List Tm} (h : ClockAt c k w p now l) (kr : Nat) (hk : kr ≠ k) (hk1 : kr ≠ k + 1) (d : Int) (hl : (l.length : Int) ≤ 1000) (hn : 0 ≤ now) (hd : 1 ≤ d) (hd2 : d ≤ 1099511627776 - now) :
    Calls Tryz.prog 65 #[.pointer (some ⟨p, 0, none⟩), .int .i64 d] w fun e w' => ∃ oo n oc, e = .returned (.tuple #[.slice oo n oc, .nilIface]) ∧ ∃ c', Stp (KJ k kr) c c' w w' ∧
      ClockAt c' k w' p (now + d) (l.dropWhile fun x => decide (x.at_ ≤ now + d)) ∧ Row c' kr w' 3 1 oo n oc ((l.takeWhile fun x => decide (x.at_ ≤ now + d)).map fun x => .int .i64 x.who) := by
  obtain ⟨n, ao, cap, hc⟩ := h
  have c0 := hc.hb.cell 0
  have f0 := hc.hb.free 0
  simp at c0
  have W : wrap64 (1099511627776 - now) = 1099511627776 - now := IntWalk.wrap64_in _ ⟨by omega, by omega⟩
  have W2 : wrap64 (now + d) = now + d := IntWalk.wrap64_in _ ⟨by omega, by omega⟩
  have t1 : decide (d < 1) = false := by simp; omega
  have t2 : decide (1099511627776 - now < d) = false := by simp; omega
  obtain ⟨now', hnow⟩ : ∃ x, x = now + d := ⟨_, rfl⟩
  have W3 : wrap64 (now + d) = now' := by rw [W2, hnow]
  rw [← hnow]
  clear W2
  have HC := Lib.hid (show ClockIs c k (w.setCell ⟨p, 0, none⟩ (.int .i64 now')) p now' l n ao cap from ⟨by simpa using hc.hb.set 0 (.int .i64 now'), hc.hr.stp ((Stp.refl (· = k) c w).setCell (p := ⟨p, 0, none⟩) (.int .i64 now') hc.hb.1) (by omega), hc.len⟩)
  have S0 := Lib.hid (show Stp (KJ k kr) c c w (w.setCell ⟨p, 0, none⟩ (.int .i64 now')) from (Stp.refl _ c w).setCell (p := ⟨p, 0, none⟩) (.int .i64 now') (.inl hc.hb.1))
  have Hl := Lib.hid hl
  clear hc hnow hn hd hd2 hl
  go_enter Tryz.func65, Tryz.ntmps65
  go_wp2_with fail
  try simp only [W3]
  clear W W3
  go_loopw [6] (fun v wr => TickRel c k kr w p now' l v wr) (fun v _ => l.length - lenOfV v)
  case atStart => exact ⟨c, 0, n, ao, cap, none, 0, rfl, Nat.zero_le _, by simp, by simpa using HC.out, Row.nil _ _ _ _ _, S0.out⟩
  case round =>
    obtain ⟨c1, t, n1, ao1, cap1, oo, oc, rfl, ht, hle, hci, hrow, st⟩ := hrel
    have C1 := Lib.hid hci
    have R1 := Lib.hid hrow
    have St := Lib.hid st
    have Hle := Lib.hid hle
    have b0 := hci.hb.cell 0
    have b1 := hci.hb.cell 1
    have g1 := hci.hb.free 1
    simp at b0 b1
    clear hci hrow st HC S0 c0 f0 hle
    by_cases hlt : t < l.length
    · obtain ⟨x, hx⟩ : ∃ x, l[t]? = some x := ⟨_, List.getElem?_eq_getElem hlt⟩
      have hd0 : (l.drop t)[0]? = some x := by rw [List.getElem?_drop]; simpa using hx
      have hn0 : 0 < n1 := by have := C1.out.len; rw [List.length_drop] at this; omega
      have hn1 : decide ((0 : Int) < (n1 : Int)) = true := by simpa using hn0
      have hcap := C1.out.hr.2.1
      obtain ⟨g, off, rfl, y0, -, -⟩ := C1.out.hr.field Tm.len hd0 (f := 0) (v := .int .i64 x.at_) rfl
      obtain ⟨g2, off2, e2, y1, -, -⟩ := C1.out.hr.field Tm.len hd0 (f := 1) (v := .int .i64 x.who) rfl
      cases e2
      simp at y0 y1
      have Hx := Lib.hid hx
      have hne : g ≠ p := C1.out.hr.ne_blk C1.out.hb (by decide) _ rfl
      have Hg := Lib.hid C1.out.hr.2.2.2.2.1
      clear hx hd0
      by_cases hw : x.at_ ≤ now'
      · have Hw := Lib.hid hw
        have tw : decide (x.at_ ≤ now') = true := by simpa using hw
        have hl9 := Hl.out
        have d2 : Hid (t + 1 ≤ maxLen) := Lib.hid (by unfold maxLen; omega)
        have d3 : Hid ((t + 1) * 8 ≤ 140737488355328) := Lib.hid (by omega)
        have Hall : Hid (∀ z ∈ l.take (t + 1), z.at_ ≤ now') := Lib.hid (by
          rw [List.take_add_one, Hx.out]
          intro z hz
          rcases List.mem_append.1 hz with hz | hz
          · exact Hle.out z hz
          · simp at hz; subst hz; exact Hw.out)
        have Htk : Hid (l.take (t + 1) = l.take t ++ [x]) := Lib.hid (by rw [List.take_add_one, Hx.out]; rfl)
        clear hw hl9
        go_wp2_with fail
        go_quiet (fail)
        by_cases hc1 : cap1 = 1
        · subst hc1
          obtain rfl : n1 = 1 := by omega
          go_wp2_with (at_builtin; refine wpList_append_row _ rfl (.tmp 56) (.tmp 64) 29 rfl (paint c1 wr.heap.size kr) kr 3 (.int .i64 0) 1 8 Tryz.underlying29 Tryz.infoIntK rfl oo t oc ((l.take t).map fun x : Tm => Value.int .i64 x.who) rfl (Row.allocG (n := wr.heap.size) (R1.out.drewN nq) rfl) _ 1 [.int .i64 x.who] rfl (Src.oneAt (by simp)) (by simp [Value.oneCell']) d2.out d3.out ?_)
          intro oo2 oc2 w2 hr2 st2 ot2
          have St2 := Lib.hid ((Stp.allocG (n := wr.heap.size) (j := kr) (o := .cells #[.int .i64 x.who] 3) ((Stp.refl (· = kr) c1 wr).drewN nq) rfl).trans st2)
          have R2 := Lib.hid hr2
          have hb2 := C1.out.hb.stp St2.out (Ne.symm hk)
          have e0 := hb2.cell 0
          have e1 := hb2.cell 1
          have h1 := hb2.free 1
          simp at e0 e1
          have Hb2 := Lib.hid hb2
          have Hr2 := Lib.hid (C1.out.hr.stp St2.out (Ne.symm hk1))
          clear hr2 st2 ot2 hb2 b0 b1 g1 y0 y1
          go_wp2
          have hl9 := Hl.out
          have S3 : Stp (KJ k kr) c _ w _ := (St.out.trans (St2.out.mono (fun _ h => .inr h))).setCell (p := ⟨p, 1, none⟩) (.slice (some ⟨g, off, none⟩) 0 0) (.inl Hb2.out.1)
          go_roundw
          case rel => exact ⟨_, t + 1, 0, some ⟨g, off, none⟩, 0, oo2, oc2, rfl, by omega, Hall.out, ⟨by simpa using Hb2.out.set 1 (.slice (some ⟨g, off, none⟩) 0 0), by
              have e : l.drop (t + 1) = [] := List.drop_of_length_le (by have := C1.out.len; rw [List.length_drop] at this; omega)
              rw [e]
              exact Hr2.out.zero.other _ (Hr2.out.ne_blk Hb2.out (by decide)) rfl, by have := C1.out.len; rw [List.length_drop] at this ⊢; omega⟩, by
              rw [Htk.out]
              simpa using R2.out.other (p := ⟨p, 1, none⟩) (.slice (some ⟨g, off, none⟩) 0 0) (R2.out.ne_blk Hb2.out (by decide)) rfl, S3⟩
          case measure => simp [lenOfV]; omega
        · have hc2 : (1 : Int) ≤ cap1 := by omega
          have hc3 : (1 : Int) ≤ n1 := by omega
          go_wp2_with (at_builtin; refine wpList_append_row _ rfl (.tmp 56) (.tmp 64) 29 rfl (paint c1 wr.heap.size kr) kr 3 (.int .i64 0) 1 8 Tryz.underlying29 Tryz.infoIntK rfl oo t oc ((l.take t).map fun x : Tm => Value.int .i64 x.who) rfl (Row.allocG (n := wr.heap.size) (R1.out.drewN nq) rfl) _ 1 [.int .i64 x.who] rfl (Src.oneAt (by simp)) (by simp [Value.oneCell']) d2.out d3.out ?_)
          intro oo2 oc2 w2 hr2 st2 ot2
          have St2 := Lib.hid ((Stp.allocG (n := wr.heap.size) (j := kr) (o := .cells #[.int .i64 x.who] 3) ((Stp.refl (· = kr) c1 wr).drewN nq) rfl).trans st2)
          have R2 := Lib.hid hr2
          have hb2 := C1.out.hb.stp St2.out (Ne.symm hk)
          have e0 := hb2.cell 0
          have e1 := hb2.cell 1
          have h1 := hb2.free 1
          simp at e0 e1
          have Hb2 := Lib.hid hb2
          have Hr2 := Lib.hid (C1.out.hr.stp St2.out (Ne.symm hk1))
          clear hr2 st2 ot2 hb2 b0 b1 g1 y0 y1
          go_wp2
          have hl9 := Hl.out
          have S3 : Stp (KJ k kr) c _ w _ := (St.out.trans (St2.out.mono (fun _ h => .inr h))).setCell (p := ⟨p, 1, none⟩) (.slice (some ⟨g, off + 2, none⟩) (n1 - 1) (cap1 - 1)) (.inl Hb2.out.1)
          go_roundw
          case rel => exact ⟨_, t + 1, n1 - 1, some ⟨g, off + 2, none⟩, cap1 - 1, oo2, oc2, rfl, by omega, Hall.out, ⟨by simpa using Hb2.out.set 1 (.slice (some ⟨g, off + 2, none⟩) (n1 - 1) (cap1 - 1)), by
              have q := Hr2.out.drop 1 (by omega)
              have e : (l.drop t).flatMap Tm.cells = x.cells ++ (l.drop (t + 1)).flatMap Tm.cells := by
                rw [List.drop_eq_getElem_cons hlt, List.flatMap_cons]
                have := Hx.out
                rw [List.getElem?_eq_getElem hlt] at this
                rw [Option.some.inj this]
              rw [e] at q
              simp [Tm.cells] at q
              have q2 := q.other (p := ⟨p, 1, none⟩) (.slice (some ⟨g, off + 2, none⟩) (n1 - 1) (cap1 - 1)) (q.ne_blk Hb2.out (by decide)) rfl
              exact q2, by have := C1.out.len; rw [List.length_drop] at this ⊢; omega⟩, by
              rw [Htk.out]
              simpa using R2.out.other (p := ⟨p, 1, none⟩) (.slice (some ⟨g, off + 2, none⟩) (n1 - 1) (cap1 - 1)) (R2.out.ne_blk Hb2.out (by decide)) rfl, S3⟩
          case measure => simp [lenOfV]; omega
      · have tw : decide (x.at_ ≤ now') = false := by simpa using hw
        have Hsp := Lib.hid (while_split Hle.out (fun z hz => by rw [Hx.out] at hz; cases hz; exact hw))
        clear hw
        go_wp2_with fail
        go_quiet (fail)
        go_wp2
        go_ret2
        refine ⟨oo, t, oc, rfl, c1, St.out.drewN nq, ?_, ?_⟩
        · rw [Hsp.out.2]; exact ⟨_, _, _, ⟨C1.out.hb, C1.out.hr, C1.out.len⟩⟩
        · rw [Hsp.out.1]; exact R1.out
    · have hn0 : ¬ 0 < n1 := by have := C1.out.len; rw [List.length_drop] at this; omega
      have hn1 : decide ((0 : Int) < (n1 : Int)) = false := by simp; omega
      have Hsp := Lib.hid (while_split (l := l) (t := t) Hle.out (fun z hz => absurd (List.getElem?_eq_some_iff.1 hz).1 hlt))
      go_wp2_with fail
      go_quiet (fail)
      go_wp2
      go_ret2
      refine ⟨oo, t, oc, rfl, c1, St.out.drewN nq, ?_, ?_⟩
      · rw [Hsp.out.2]; exact ⟨_, _, _, ⟨C1.out.hb, C1.out.hr, C1.out.len⟩⟩
      · rw [Hsp.out.1]; exact R1.out
end Go.Proofs.YtiphdedfbafhkaaGreatDoor
