/- Contracts of the actor table's functions: for every table that is such (TableAt), the conditions of each beside it. -/
import Derived.Test.YtiphdedfbafhkaaGreatDoorErrs2
import Derived.Test.YtiphdedfbafhkaaGreatDoorMem2
namespace Go.Proofs.YtiphdedfbafhkaaGreatDoor
open Go.RowKit

structure One where
  state : Int
  token : Bool
  wakes : Int

def One.cells (x : One) : List Value := [.int .i64 x.state, .bool x.token, .int .i64 x.wakes]
theorem One.len (x : One) : x.cells.length = 3 := rfl

def TableAt (c : Nat → Nat) (k : Nat) (w : World) (p : Nat) (l : List One) : Prop :=
  ∃ ao cap, Blk c k w p [.slice ao l.length cap] 130 ∧ Row c k w 175 3 ao l.length cap (l.flatMap One.cells)

theorem TableAt.stp {J : Nat → Prop} {c c' : Nat → Nat} {k : Nat} {w w' : World} {p : Nat} {l : List One} (h : TableAt c k w p l) (st : Stp J c c' w w') (hk : ¬ J k) : TableAt c' k w' p l := by
  obtain ⟨ao, cap, hb, hr⟩ := h
  exact ⟨ao, cap, hb.stp st hk, hr.stp st hk⟩

theorem Tryz.infoOne : (Tryz.prog.info? 175).map (fun i => (i.zero, i.size, i.bytes)) = some (some (.agg #[.int .i64 0, .bool false, .int .i64 0]), 3, 24) := by kernel_rfl

/-- What a look at an actor wants to know. -/
theorem TableAt.open_one {c : Nat → Nat} {k : Nat} {w : World} {p : Nat} {l : List One} (h : TableAt c k w p l) {j : Nat} {x : One} (hj : l[j]? = some x) :
    ∃ g off cap, Blk c k w p [.slice (some ⟨g, off, none⟩) l.length cap] 130 ∧ Row c k w 175 3 (some ⟨g, off, none⟩) l.length cap (l.flatMap One.cells) ∧
      w.cell? ⟨g, off + j * 3, none⟩ = some (.int .i64 x.state) ∧ w.cell? ⟨g, off + j * 3 + 1, none⟩ = some (.bool x.token) ∧ w.cell? ⟨g, off + j * 3 + 2, none⟩ = some (.int .i64 x.wakes) ∧
      w.frozen? ⟨g, off + j * 3, none⟩ = false ∧ w.frozen? ⟨g, off + j * 3 + 1, none⟩ = false ∧ w.frozen? ⟨g, off + j * 3 + 2, none⟩ = false ∧ g ≠ p ∧ j < l.length := by
  obtain ⟨ao, cap, hb, hr⟩ := h
  obtain ⟨g, off, rfl, c0, f0, _⟩ := hr.field One.len hj (f := 0) (v := .int .i64 x.state) rfl
  obtain ⟨g1, off1, e1, c1, f1, _⟩ := hr.field One.len hj (f := 1) (v := .bool x.token) rfl
  obtain ⟨g2, off2, e2, c2, f2, _⟩ := hr.field One.len hj (f := 2) (v := .int .i64 x.wakes) rfl
  simp only [Option.some.injEq, Addr.mk.injEq, and_true] at e1 e2
  obtain ⟨rfl, rfl⟩ := e1
  obtain ⟨rfl, rfl⟩ := e2
  exact ⟨g, off, cap, hb, hr, c0, c1, c2, f0, f1, f2, hr.ne_blk hb (by decide) _ rfl, (List.getElem?_eq_some_iff.1 hj).1⟩

/-- A store into an actor's field. -/
theorem TableAt.pair {c : Nat → Nat} {k : Nat} {w : World} {p : Nat} {l : List One} {g off cap : Nat} (hb : Blk c k w p [.slice (some ⟨g, off, none⟩) l.length cap] 130) (hr : Row c k w 175 3 (some ⟨g, off, none⟩) l.length cap (l.flatMap One.cells))
    {j : Nat} {x : One} (y : One) (hx : l[j]? = some x) (f : Nat) (v : Value) (hf : f < 3) (hy : y.cells = x.cells.set f v) :
    Blk c k (w.setCell ⟨g, off + j * 3 + f, none⟩ v) p [.slice (some ⟨g, off, none⟩) (l.set j y).length cap] 130 ∧ Row c k (w.setCell ⟨g, off + j * 3 + f, none⟩ v) 175 3 (some ⟨g, off, none⟩) (l.set j y).length cap ((l.set j y).flatMap One.cells) := by
  rw [Nat.add_assoc, List.length_set]
  exact ⟨hb.other (p := ⟨g, off + (j * 3 + f), none⟩) v (show g ≠ p from hr.ne_blk hb (by decide) ⟨g, off, none⟩ rfl), hr.setField One.len hx hf hy⟩

theorem TableAt.put {c : Nat → Nat} {k : Nat} {w : World} {p : Nat} {l : List One} {g off cap : Nat} (hb : Blk c k w p [.slice (some ⟨g, off, none⟩) l.length cap] 130) (hr : Row c k w 175 3 (some ⟨g, off, none⟩) l.length cap (l.flatMap One.cells))
    {j : Nat} {x : One} (y : One) (hx : l[j]? = some x) (f : Nat) (v : Value) (hf : f < 3) (hy : y.cells = x.cells.set f v) : TableAt c k (w.setCell ⟨g, off + j * 3 + f, none⟩ v) p (l.set j y) :=
  let h := TableAt.pair hb hr y hx f v hf hy
  ⟨_, _, h.1, h.2⟩

theorem anew_any (c : Nat → Nat) (k : Nat) (w : World) :
    Calls Tryz.prog 75 #[] w fun e w' => e = .returned (.pointer (some ⟨w.heap.size, 0, none⟩)) ∧ ∃ c', Stp (· = k) c c' w w' ∧ TableAt c' k w' w.heap.size [] := by
  go_enter Tryz.func75, Tryz.ntmps75
  go_wp2
  go_ret
  exact ⟨rfl, _, (Stp.refl _ c w).alloc _ k, none, 0, Blk.new c k w _ _, Row.nil _ _ _ _ _⟩

theorem aat_none (op : ByteArray) (id : Int) (w : World) :
    Calls Tryz.prog 108 #[.pointer none, .string op, .int .i64 id] w fun e w' => e = .returned (.iface 98 (.int .i64 2)) ∧ w = w' := by
  go_enter Tryz.func108, Tryz.ntmps108
  go_wp2
  go_ret
  exact ⟨rfl, rfl⟩

theorem aat_ok {c : Nat → Nat} {k : Nat} {w : World} {p : Nat} {l : List One} (h : TableAt c k w p l) (op : ByteArray) (j : Nat) {x : One} (hj : l[j]? = some x) (hx : x.state ≠ 2) :
    Calls Tryz.prog 108 #[.pointer (some ⟨p, 0, none⟩), .string op, .int .i64 j] w fun e w' => e = .returned .nilIface ∧ w = w' := by
  obtain ⟨g, off, cap, hb, hr, c0, _, _, _, _, _, _, hlt⟩ := h.open_one hj
  have b0 := hb.cell 0
  simp at b0
  have hx' : (x.state == 2) = false := by simpa using hx
  have h0 : decide ((j : Int) < 0) = false := by simp
  clear hb hr h hj hx
  go_enter Tryz.func108, Tryz.ntmps108
  go_wp2
  go_ret
  exact ⟨rfl, rfl⟩

/-- What is wrong with an actor. -/
def wrongAt (l : List One) (id : Int) : Int := if id < 0 ∨ (l.length : Int) ≤ id then 3 else match l[id.toNat]? with | some x => if x.state = 2 then 17 else 0 | none => 3

theorem aat_bad {c : Nat → Nat} {k : Nat} {w : World} {p : Nat} {l : List One} (h : TableAt c k w p l) (op : ByteArray) (id : Int) (hw : wrongAt l id ≠ 0) :
    Calls Tryz.prog 108 #[.pointer (some ⟨p, 0, none⟩), .string op, .int .i64 id] w fun e w' => ∃ t v, e = .returned (.iface t v) ∧ ∃ c', Stp (fun _ => False) c c' w w' ∧ ErrAt c' w' (.iface t v) (wrongAt l id) := by
  by_cases h0 : id < 0
  · have e3 : wrongAt l id = 3 := by simp [wrongAt, h0]
    rw [e3]
    have h0' : decide (id < 0) = true := by simpa using h0
    clear hw e3
    go_enter Tryz.func108, Tryz.ntmps108
    go_wp2_with (go_at_call 50; refine (wrap_some _ _ _ _ _).mono ?_; rintro e w' ⟨rfl, rfl⟩)
    go_ret
    exact ⟨_, _, rfl, _, (Stp.refl _ c w).alloc _ 1, ErrAt.new _ _ _ _ _⟩
  · have h0' : decide (id < 0) = false := by simpa using h0
    by_cases h1 : (l.length : Int) ≤ id
    · have e3 : wrongAt l id = 3 := by simp [wrongAt, h1]
      rw [e3]
      obtain ⟨ao, cap, hb, hr⟩ := h
      have b0 := hb.cell 0
      simp at b0
      clear hb hr hw e3 h0
      go_enter Tryz.func108, Tryz.ntmps108
      go_wp2_with (go_at_call 50; refine (wrap_some _ _ _ _ _).mono ?_; rintro e w' ⟨rfl, rfl⟩)
      go_ret
      exact ⟨_, _, rfl, _, (Stp.refl _ c w).alloc _ 1, ErrAt.new _ _ _ _ _⟩
    · obtain ⟨j, rfl⟩ := Int.eq_ofNat_of_zero_le (show 0 ≤ id by omega)
      have hjl : j < l.length := by omega
      have hj : l[j]? = some l[j] := List.getElem?_eq_getElem hjl
      have hx : l[j].state = 2 := by
        by_cases hx : l[j].state = 2
        · exact hx
        · exact absurd (by simp [wrongAt, hj, hx]; omega) hw
      have e17 : wrongAt l (j : Int) = 17 := by simp [wrongAt, hj, hx]; omega
      rw [e17]
      obtain ⟨g, off, cap, hb, hr, c0, _, _, _, _, _, _, hlt⟩ := h.open_one hj
      have b0 := hb.cell 0
      simp at b0
      rw [hx] at c0
      clear hb hr h hj hx hw e17 h0 h1
      go_enter Tryz.func108, Tryz.ntmps108
      go_wp2_with (go_at_call 50; refine (wrap_some _ _ _ _ _).mono ?_; rintro e w' ⟨rfl, rfl⟩)
      go_ret
      exact ⟨_, _, rfl, _, (Stp.refl _ c w).alloc _ 1, ErrAt.new _ _ _ _ _⟩

theorem aadd_ok {c : Nat → Nat} {k : Nat} {w : World} {p : Nat} {l : List One} (h : TableAt c k w p l) (hl : (l.length : Int) < 64) :
    Calls Tryz.prog 78 #[.pointer (some ⟨p, 0, none⟩)] w fun e w' => e = .returned (.tuple #[.int .i64 l.length, .nilIface]) ∧ ∃ c', Stp (· = k) c c' w w' ∧ TableAt c' k w' p (l ++ [⟨0, false, 0⟩]) := by
  obtain ⟨ao, cap, hb, hr⟩ := h
  have c0 := hb.cell 0
  simp at c0
  have Hb := Lib.hid hb
  have Hr := Lib.hid hr
  have hlt := hb.lt
  clear hb hr
  go_enter Tryz.func78, Tryz.ntmps78
  go_wp2_with (at_builtin; refine wpList_append_row _ rfl (.tmp 24) (.tmp 26) 128 rfl (paint c w.heap.size k) k 175 (.agg #[.int .i64 0, .bool false, .int .i64 0]) 3 24 Tryz.underlying128 Tryz.infoOne rfl ao l.length cap (l.flatMap One.cells) rfl (Hr.out.alloc _ _) (.slice (some ⟨w.heap.size, 0, none⟩) 1 1) 1 [.int .i64 0, .bool false, .int .i64 0] rfl (Src.new w 3 1 [.int .i64 0, .bool false, .int .i64 0] 175 rfl) ?c1 ?c2 ?c3 ?_)
  case c1 => simp [Value.oneCell']
  case c2 => unfold maxLen; omega
  case c3 => omega
  intro ao' cap' w1 hr1 st1 ot1
  have hb1 := (Hb.out.alloc (.cells #[.int .i64 0, .bool false, .int .i64 0] 175) k).kept (st1.col p (by simp; omega)) ot1 (Hr.out.ne_blk Hb.out (by decide))
  have d0 := hb1.cell 0
  have e0 := hb1.free 0
  simp at d0
  have Hb1 := Lib.hid hb1
  have Hr1 := Lib.hid hr1
  have Hst := Lib.hid st1
  clear hb1 hr1 st1 ot1 c0
  go_wp2
  go_ret2
  refine ⟨rfl, _, (((Stp.refl _ c w).alloc _ k).trans Hst.out).setCell _ Hb1.out.1, ao', cap', ?_, ?_⟩
  · simpa using Hb1.out.set 0 (.slice ao' (l.length + 1) cap')
  · have := Hr1.out.other (p := ⟨p, 0, none⟩) (.slice ao' (l.length + 1) cap') (Hr1.out.ne_blk Hb1.out (by decide)) rfl
    simpa [One.cells] using this

theorem aadd_nil (w : World) :
    Calls Tryz.prog 78 #[.pointer none] w fun e w' => e = .returned (.tuple #[.int .i64 0, .iface 98 (.int .i64 2)]) ∧ w = w' := by
  go_enter Tryz.func78, Tryz.ntmps78
  go_wp2
  go_ret2
  exact ⟨rfl, rfl⟩

theorem aadd_full {c : Nat → Nat} {k : Nat} {w : World} {p : Nat} {l : List One} (h : TableAt c k w p l) (hl : 64 ≤ (l.length : Int)) :
    Calls Tryz.prog 78 #[.pointer (some ⟨p, 0, none⟩)] w fun e w' => ∃ t v, e = .returned (.tuple #[.int .i64 0, .iface t v]) ∧ ∃ c', Stp (fun _ => False) c c' w w' ∧ ErrAt c' w' (.iface t v) 8 := by
  obtain ⟨ao, cap, hb, hr⟩ := h
  have c0 := hb.cell 0
  simp at c0
  clear hb hr
  have hl2 : (l.length : Int) ≤ 140737488355328 ∨ True := .inr trivial
  clear hl2
  go_enter Tryz.func78, Tryz.ntmps78
  go_wp2_with (go_at_call 50; refine (wrap_some _ _ _ _ _).mono ?_; rintro e w' ⟨rfl, rfl⟩)
  go_ret2
  exact ⟨_, _, rfl, _, (Stp.refl _ c w).alloc _ 1, ErrAt.new _ _ _ _ _⟩

/-- Park of one with a token. -/
theorem apark_token {c : Nat → Nat} {k : Nat} {w : World} {p : Nat} {l : List One} (h : TableAt c k w p l) (j : Nat) {x : One} (hj : l[j]? = some x) (hx : x.state ≠ 2) (ht : x.token = true) :
    Calls Tryz.prog 61 #[.pointer (some ⟨p, 0, none⟩), .int .i64 j] w fun e w' => e = .returned (.tuple #[.bool false, .nilIface]) ∧ ∃ c', Stp (· = k) c c' w w' ∧ TableAt c' k w' p (l.set j { x with token := false }) := by
  have Hat := Lib.hid h
  have Hj := Lib.hid hj
  have Hx := Lib.hid hx
  obtain ⟨g, off, cap, hb, hr, _, c1, _, _, f1, _, hne, hlt⟩ := h.open_one hj
  rw [ht] at c1
  have b0 := hb.cell 0
  simp at b0
  have Hb := Lib.hid hb
  have Hr := Lib.hid hr
  clear hb hr h hj hx ht
  go_enter Tryz.func61, Tryz.ntmps61
  go_wp2_with (go_at_call 108; refine (aat_ok Hat.out _ _ Hj.out Hx.out).mono ?_; rintro e w' ⟨rfl, rfl⟩)
  go_ret2
  exact ⟨rfl, _, (Stp.refl _ c w).setCell _ Hr.out.2.2.2.2.1, TableAt.put Hb.out Hr.out _ Hj.out 1 _ (by decide) rfl⟩

/-- Park of one without a token. -/
theorem apark_yes {c : Nat → Nat} {k : Nat} {w : World} {p : Nat} {l : List One} (h : TableAt c k w p l) (j : Nat) {x : One} (hj : l[j]? = some x) (hx : x.state ≠ 2) (ht : x.token = false) :
    Calls Tryz.prog 61 #[.pointer (some ⟨p, 0, none⟩), .int .i64 j] w fun e w' => e = .returned (.tuple #[.bool true, .nilIface]) ∧ ∃ c', Stp (· = k) c c' w w' ∧ TableAt c' k w' p (l.set j { x with state := 1 }) := by
  have Hat := Lib.hid h
  have Hj := Lib.hid hj
  have Hx := Lib.hid hx
  obtain ⟨g, off, cap, hb, hr, c0, c1, _, f0, _, _, hne, hlt⟩ := h.open_one hj
  rw [ht] at c1
  have b0 := hb.cell 0
  simp at b0
  have Hb := Lib.hid hb
  have Hr := Lib.hid hr
  clear hb hr h hj hx ht
  go_enter Tryz.func61, Tryz.ntmps61
  go_wp2_with (go_at_call 108; refine (aat_ok Hat.out _ _ Hj.out Hx.out).mono ?_; rintro e w' ⟨rfl, rfl⟩)
  go_ret2
  exact ⟨rfl, _, (Stp.refl _ c w).setCell _ Hr.out.2.2.2.2.1, TableAt.put Hb.out Hr.out { x with state := 1 } Hj.out 0 (.int .i64 1) (by decide) rfl⟩

theorem apark_bad {c : Nat → Nat} {k : Nat} {w : World} {p : Nat} {l : List One} (h : TableAt c k w p l) (id : Int) (hw : wrongAt l id ≠ 0) :
    Calls Tryz.prog 61 #[.pointer (some ⟨p, 0, none⟩), .int .i64 id] w fun e w' => ∃ ev, e = .returned (.tuple #[.bool false, ev]) ∧ ∃ c', Stp (fun _ => False) c c' w w' ∧ ErrAt c' w' ev (wrongAt l id) := by
  have Hat := Lib.hid h
  have Hw := Lib.hid hw
  clear h hw
  go_enter Tryz.func61, Tryz.ntmps61
  go_wp2_with (go_at_call 108; refine (aat_bad Hat.out _ _ Hw.out).mono ?_; rintro e w' ⟨t, v, rfl, c', st, he⟩)
  go_ret2
  exact ⟨_, rfl, c', st, he⟩

theorem apark_nil (id : Int) (w : World) :
    Calls Tryz.prog 61 #[.pointer none, .int .i64 id] w fun e w' => e = .returned (.tuple #[.bool false, .iface 98 (.int .i64 2)]) ∧ w = w' := by
  go_enter Tryz.func61, Tryz.ntmps61
  go_wp2_with (go_at_call 108; refine (aat_none _ _ _).mono ?_; rintro e w' ⟨rfl, rfl⟩)
  go_ret2
  exact ⟨rfl, rfl⟩

/-- Wake of a parked one. -/
theorem awake_parked {c : Nat → Nat} {k : Nat} {w : World} {p : Nat} {l : List One} (h : TableAt c k w p l) (j : Nat) {x : One} (hj : l[j]? = some x) (hx : x.state = 1) (h0 : 0 ≤ x.wakes) (h1 : x.wakes < 4611686018427387904) :
    Calls Tryz.prog 64 #[.pointer (some ⟨p, 0, none⟩), .int .i64 j] w fun e w' => e = .returned (.tuple #[.bool true, .nilIface]) ∧ ∃ c', Stp (· = k) c c' w w' ∧ TableAt c' k w' p (l.set j { x with state := 0, wakes := x.wakes + 1 }) := by
  have Hat := Lib.hid h
  have Hj := Lib.hid hj
  have Hx := Lib.hid hx
  obtain ⟨g, off, cap, hb, hr, c0, c1, c2, f0, _, f2, hne, hlt⟩ := h.open_one hj
  rw [hx] at c0
  have b0 := hb.cell 0
  simp at b0
  have Hb := Lib.hid hb
  have Hr := Lib.hid hr
  clear hb hr h hj hx
  go_enter Tryz.func64, Tryz.ntmps64
  go_wp2_with (go_at_call 108; refine (aat_ok Hat.out _ _ Hj.out (by rw [Hx.out]; decide)).mono ?_; rintro e w' ⟨rfl, rfl⟩)
  go_ret2
  have t1 := TableAt.pair Hb.out Hr.out { x with wakes := x.wakes + 1 } Hj.out 2 (.int .i64 (x.wakes + 1)) (by decide) rfl
  have t2 := TableAt.put t1.1 t1.2 (j := j) (x := { x with wakes := x.wakes + 1 }) { x with state := 0, wakes := x.wakes + 1 } (by simp [hlt]) 0 (.int .i64 0) (by decide) rfl
  refine ⟨rfl, _, ((Stp.refl _ c w).setCell _ Hr.out.2.2.2.2.1).setCell _ Hr.out.2.2.2.2.1, ?_⟩
  simpa using t2

/-- Wake of a ready one. -/
theorem awake_ready {c : Nat → Nat} {k : Nat} {w : World} {p : Nat} {l : List One} (h : TableAt c k w p l) (j : Nat) {x : One} (hj : l[j]? = some x) (hx : x.state ≠ 2) (hx1 : x.state ≠ 1) (h0 : 0 ≤ x.wakes) (h1 : x.wakes < 4611686018427387904) :
    Calls Tryz.prog 64 #[.pointer (some ⟨p, 0, none⟩), .int .i64 j] w fun e w' => e = .returned (.tuple #[.bool false, .nilIface]) ∧ ∃ c', Stp (· = k) c c' w w' ∧ TableAt c' k w' p (l.set j { x with token := true, wakes := x.wakes + 1 }) := by
  have Hat := Lib.hid h
  have Hj := Lib.hid hj
  have Hx := Lib.hid hx
  have hx1' : (x.state == 1) = false := by simpa using hx1
  obtain ⟨g, off, cap, hb, hr, c0, c1, c2, f0, f1, f2, hne, hlt⟩ := h.open_one hj
  have b0 := hb.cell 0
  simp at b0
  have Hb := Lib.hid hb
  have Hr := Lib.hid hr
  clear hb hr h hj hx hx1
  go_enter Tryz.func64, Tryz.ntmps64
  go_wp2_with (go_at_call 108; refine (aat_ok Hat.out _ _ Hj.out Hx.out).mono ?_; rintro e w' ⟨rfl, rfl⟩)
  go_ret2
  have t1 := TableAt.pair Hb.out Hr.out { x with wakes := x.wakes + 1 } Hj.out 2 (.int .i64 (x.wakes + 1)) (by decide) rfl
  have t2 := TableAt.put t1.1 t1.2 (j := j) (x := { x with wakes := x.wakes + 1 }) { x with token := true, wakes := x.wakes + 1 } (by simp [hlt]) 1 (.bool true) (by decide) rfl
  refine ⟨rfl, _, ((Stp.refl _ c w).setCell _ Hr.out.2.2.2.2.1).setCell _ Hr.out.2.2.2.2.1, ?_⟩
  simpa using t2

theorem awake_bad {c : Nat → Nat} {k : Nat} {w : World} {p : Nat} {l : List One} (h : TableAt c k w p l) (id : Int) (hw : wrongAt l id ≠ 0) :
    Calls Tryz.prog 64 #[.pointer (some ⟨p, 0, none⟩), .int .i64 id] w fun e w' => ∃ ev, e = .returned (.tuple #[.bool false, ev]) ∧ ∃ c', Stp (fun _ => False) c c' w w' ∧ ErrAt c' w' ev (wrongAt l id) := by
  have Hat := Lib.hid h
  have Hw := Lib.hid hw
  clear h hw
  go_enter Tryz.func64, Tryz.ntmps64
  go_wp2_with (go_at_call 108; refine (aat_bad Hat.out _ _ Hw.out).mono ?_; rintro e w' ⟨t, v, rfl, c', st, he⟩)
  go_ret2
  exact ⟨_, rfl, c', st, he⟩

theorem awake_nil (id : Int) (w : World) :
    Calls Tryz.prog 64 #[.pointer none, .int .i64 id] w fun e w' => e = .returned (.tuple #[.bool false, .iface 98 (.int .i64 2)]) ∧ w = w' := by
  go_enter Tryz.func64, Tryz.ntmps64
  go_wp2_with (go_at_call 108; refine (aat_none _ _ _).mono ?_; rintro e w' ⟨rfl, rfl⟩)
  go_ret2
  exact ⟨rfl, rfl⟩

theorem astate_in {c : Nat → Nat} {k : Nat} {w : World} {p : Nat} {l : List One} (h : TableAt c k w p l) (j : Nat) {x : One} (hj : l[j]? = some x) :
    Calls Tryz.prog 47 #[.pointer (some ⟨p, 0, none⟩), .int .i64 j] w fun e w' => e = .returned (.int .i64 x.state) ∧ w = w' := by
  obtain ⟨g, off, cap, hb, hr, c0, _, _, _, _, _, hne, hlt⟩ := h.open_one hj
  have b0 := hb.cell 0
  simp at b0
  have h0 : decide ((j : Int) < 0) = false := by simp
  clear hb hr h hj
  go_enter Tryz.func47, Tryz.ntmps47
  go_wp2
  go_ret
  exact ⟨rfl, rfl⟩

theorem astate_out {c : Nat → Nat} {k : Nat} {w : World} {p : Nat} {l : List One} (h : TableAt c k w p l) (id : Int) (hid : id < 0 ∨ (l.length : Int) ≤ id) :
    Calls Tryz.prog 47 #[.pointer (some ⟨p, 0, none⟩), .int .i64 id] w fun e w' => e = .returned (.int .i64 2) ∧ w = w' := by
  obtain ⟨ao, cap, hb, hr⟩ := h
  have b0 := hb.cell 0
  simp at b0
  clear hb hr
  by_cases h0 : id < 0
  · have h0' : decide (id < 0) = true := by simpa using h0
    clear hid
    go_enter Tryz.func47, Tryz.ntmps47
    go_wp2
    go_ret
    exact ⟨rfl, rfl⟩
  · have h0' : decide (id < 0) = false := by simpa using h0
    have h1 : (l.length : Int) ≤ id := by omega
    clear hid
    go_enter Tryz.func47, Tryz.ntmps47
    go_wp2
    go_ret
    exact ⟨rfl, rfl⟩

end Go.Proofs.YtiphdedfbafhkaaGreatDoor
