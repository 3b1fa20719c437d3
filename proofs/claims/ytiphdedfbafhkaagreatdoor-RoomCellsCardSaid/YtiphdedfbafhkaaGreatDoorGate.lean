/- Contracts of the gate's Group: Add, Cells, Len, Least, Who, Scan; of Scan's functions; and of the document's Least. No condition beyond each contract's own. -/
import Derived.Test.YtiphdedfbafhkaaGreatDoorSlices
import Derived.Test.YtiphdedfbafhkaaGreatDoorCells3
namespace Go.Proofs.YtiphdedfbafhkaaGreatDoor
open Go.RowKit

def GroupAt (c : Nat → Nat) (k : Nat) (w : World) (p : Nat) (l : List Int) : Prop :=
  ∃ ao cap, Blk c k w p [.slice ao l.length cap] 137 ∧ Row c k w 3 1 ao l.length cap (l.map (Value.int .i64))

theorem GroupAt.stp {J : Nat → Prop} {c c' : Nat → Nat} {k : Nat} {w w' : World} {p : Nat} {l : List Int} (h : GroupAt c k w p l) (st : Stp J c c' w w') (hk : ¬ J k) : GroupAt c' k w' p l := by
  obtain ⟨ao, cap, hb, hr⟩ := h
  exact ⟨ao, cap, hb.stp st hk, hr.stp st hk⟩

/-- What is wrong with a cell that is put in; 0: nothing. -/
def gaddErr (l : List Int) (id : Int) : Int := if id < 0 ∨ 2097152 ≤ id then 1 else if id ∈ l then 4 else if (32 : Int) ≤ (l.length : Int) then 8 else 0

theorem gadd_bad {c : Nat → Nat} {k : Nat} {w : World} {p : Nat} {l : List Int} (h : GroupAt c k w p l) (id : Int) (he : gaddErr l id ≠ 0) :
    Calls Tryz.prog 38 #[.pointer (some ⟨p, 0, none⟩), .int .i64 id] w fun e w' => ∃ t v, e = .returned (.iface t v) ∧ ∃ c', Stp (fun _ => False) c c' w w' ∧ ErrAt c' w' (.iface t v) (gaddErr l id) := by
  obtain ⟨ao, cap, hb, hr⟩ := h
  have c0 := hb.cell 0
  simp at c0
  have Hr := Lib.hid hr
  clear hb hr
  by_cases h0 : id < 0
  · have e1 : gaddErr l id = 1 := by simp [gaddErr, h0]
    rw [e1]
    have t0 : decide (id < 0) = true := by simpa using h0
    clear e1 he h0
    go_enter Tryz.func38, Tryz.ntmps38
    go_wp2_with (go_at_call 50; refine (wrap_some _ _ _ _ _).mono ?_; rintro e w' ⟨rfl, rfl⟩)
    go_ret
    exact ⟨_, _, rfl, _, (Stp.refl _ c w).alloc _ 1, ErrAt.new _ _ _ _ _⟩
  · have t0 : decide (id < 0) = false := by simpa using h0
    by_cases h1 : 2097152 ≤ id
    · have e1 : gaddErr l id = 1 := by simp [gaddErr, h1]
      rw [e1]
      have t1 : decide ((2097152 : Int) ≤ id) = true := by simpa using h1
      clear e1 he h0
      go_enter Tryz.func38, Tryz.ntmps38
      go_wp2_with (go_at_call 50; refine (wrap_some _ _ _ _ _).mono ?_; rintro e w' ⟨rfl, rfl⟩)
      go_ret
      exact ⟨_, _, rfl, _, (Stp.refl _ c w).alloc _ 1, ErrAt.new _ _ _ _ _⟩
    · have t1 : decide ((2097152 : Int) ≤ id) = false := by simpa using h1
      by_cases h2 : id ∈ l
      · have e1 : gaddErr l id = 4 := by simp [gaddErr, h0, h1, h2]
        rw [e1]
        have H2 := Lib.hid h2
        clear e1 he h0 h1 h2
        go_enter Tryz.func38, Tryz.ntmps38
        go_wp2_with (first
          | (go_at_call 68; refine (contains_yes Hr.out.toIn _ H2.out).mono ?_; rintro e w' ⟨rfl, rfl⟩)
          | (go_at_call 50; refine (wrap_some _ _ _ _ _).mono ?_; rintro e w' ⟨rfl, rfl⟩))
        go_ret
        exact ⟨_, _, rfl, _, (Stp.refl _ c w).alloc _ 1, ErrAt.new _ _ _ _ _⟩
      · have hl : (32 : Int) ≤ l.length := by
          by_cases h3 : (32 : Int) ≤ l.length
          · exact h3
          · exact absurd (by simp [gaddErr, h0, h1, h2]; omega) he
        have e1 : gaddErr l id = 8 := by simp [gaddErr, h0, h1, h2]; omega
        rw [e1]
        have H2 := Lib.hid h2
        have t2 : decide ((32 : Int) ≤ l.length) = true := by simpa using hl
        clear e1 he h0 h1 h2 hl
        go_enter Tryz.func38, Tryz.ntmps38
        go_wp2_with (first
          | (go_at_call 68; refine (contains_no Hr.out.toIn _ H2.out).mono ?_; rintro e w' ⟨rfl, rfl⟩)
          | (go_at_call 50; refine (wrap_some _ _ _ _ _).mono ?_; rintro e w' ⟨rfl, rfl⟩))
        go_ret
        exact ⟨_, _, rfl, _, (Stp.refl _ c w).alloc _ 1, ErrAt.new _ _ _ _ _⟩

theorem gadd_ok {c : Nat → Nat} {k : Nat} {w : World} {p : Nat} {l : List Int} (h : GroupAt c k w p l) (id : Int) (he : gaddErr l id = 0) :
    Calls Tryz.prog 38 #[.pointer (some ⟨p, 0, none⟩), .int .i64 id] w fun e w' => e = .returned .nilIface ∧ ∃ c', Stp (· = k) c c' w w' ∧ GroupAt c' k w' p (l ++ [id]) := by
  obtain ⟨ao, cap, hb, hr⟩ := h
  have c0 := hb.cell 0
  simp at c0
  have hcond : ¬ id < 0 ∧ ¬ 2097152 ≤ id ∧ id ∉ l ∧ ¬ (32 : Int) ≤ l.length := by
    unfold gaddErr at he
    split at he
    · cases he
    · split at he
      · cases he
      · split at he
        · cases he
        · rename_i h1 h2 h3; exact ⟨by omega, by omega, h2, h3⟩
  obtain ⟨h0, h1, h2, h3⟩ := hcond
  have t0 : decide (id < 0) = false := by simpa using h0
  have t1 : decide ((2097152 : Int) ≤ id) = false := by simpa using h1
  have t2 : decide ((32 : Int) ≤ l.length) = false := by simpa using h3
  have Hb := Lib.hid hb
  have Hr := Lib.hid hr
  have H2 := Lib.hid h2
  have hlt := hb.lt
  have hl3 : (l.length : Int) < 32 := by omega
  have Hl := Lib.hid hl3
  clear hb hr he h0 h1 h2 h3 hl3
  go_enter Tryz.func38, Tryz.ntmps38
  go_wp2_with (first
    | (go_at_call 68; refine (contains_no Hr.out.toIn _ H2.out).mono ?_; rintro e w' ⟨rfl, rfl⟩)
    | (at_builtin; refine wpList_append_row _ rfl (.tmp 43) (.tmp 45) 29 rfl (paint c w.heap.size k) k 3 (.int .i64 0) 1 8 Tryz.underlying29 Tryz.infoInt rfl ao l.length cap (l.map (Value.int .i64)) rfl (Hr.out.alloc _ _) _ 1 [.int .i64 id] rfl (Src.one _ _ _) ?c1 ?c2 ?c3 ?_))
  case c1 => simp [Value.oneCell']
  case c2 => have := Hl.out; unfold maxLen; omega
  case c3 => have := Hl.out; omega
  intro ao' cap' w1 hr1 st1 ot1
  have hb1 := (Hb.out.alloc (.cells #[.int .i64 id] 3) k).kept (st1.col p (by simp; omega)) ot1 (Hr.out.ne_blk Hb.out (by decide))
  have d0 := hb1.cell 0
  have e0 := hb1.free 0
  simp at d0
  have Hb1 := Lib.hid hb1
  have Hr1 := Lib.hid hr1
  have Hst := Lib.hid st1
  clear hb1 hr1 st1 ot1 c0
  go_wp2
  go_ret
  refine ⟨rfl, _, (((Stp.refl _ c w).alloc _ k).trans Hst.out).setCell _ Hb1.out.1, ao', cap', ?_, ?_⟩
  · simpa using Hb1.out.set 0 (.slice ao' (l.length + 1) cap')
  · simpa using Hr1.out.other _ (Hr1.out.ne_blk Hb1.out (by decide)) rfl

theorem gadd_nil (id : Int) (w : World) :
    Calls Tryz.prog 38 #[.pointer none, .int .i64 id] w fun e w' => e = .returned (.iface 98 (.int .i64 2)) ∧ w = w' := by
  go_enter Tryz.func38, Tryz.ntmps38
  go_wp2
  go_ret
  exact ⟨rfl, rfl⟩

theorem gcells_nil (w : World) :
    Calls Tryz.prog 144 #[.pointer none] w fun e w' => e = .returned (.slice none 0 0) ∧ w = w' := by
  go_enter Tryz.func144, Tryz.ntmps144
  go_wp2
  go_ret
  exact ⟨rfl, rfl⟩

theorem glen_nil (w : World) :
    Calls Tryz.prog 27 #[.pointer none] w fun e w' => e = .returned (.int .i64 0) ∧ w = w' := by
  go_enter Tryz.func27, Tryz.ntmps27
  go_wp2
  go_ret
  exact ⟨rfl, rfl⟩

theorem glen_any {c : Nat → Nat} {k : Nat} {w : World} {p : Nat} {l : List Int} (h : GroupAt c k w p l) :
    Calls Tryz.prog 27 #[.pointer (some ⟨p, 0, none⟩)] w fun e w' => e = .returned (.int .i64 l.length) ∧ w = w' := by
  obtain ⟨ao, cap, hb, hr⟩ := h
  have c0 := hb.cell 0
  simp at c0
  clear hb hr
  go_enter Tryz.func27, Tryz.ntmps27
  go_wp2
  go_ret
  exact ⟨rfl, rfl⟩

theorem gcells_any {c : Nat → Nat} {k : Nat} {w : World} {p : Nat} {l : List Int} (h : GroupAt c k w p l) (k2 : Nat) (hl : (l.length : Int) ≤ 1048576) :
    Calls Tryz.prog 144 #[.pointer (some ⟨p, 0, none⟩)] w fun e w' => ∃ ao' cap', e = .returned (.slice ao' l.length cap') ∧ ∃ c', Stp (fun _ => False) c c' w w' ∧ Row c' k2 w' 3 1 ao' l.length cap' (l.map (Value.int .i64)) := by
  obtain ⟨ao, cap, hb, hr⟩ := h
  have c0 := hb.cell 0
  simp at c0
  have Hr := Lib.hid hr
  have Hl := Lib.hid hl
  clear hb hr hl
  go_enter Tryz.func144, Tryz.ntmps144
  go_wp2_with (go_at_call 71; refine (clone_in Hr.out.toIn k2 Hl.out).mono ?_; rintro e w' ⟨ao', cap', rfl, c', s', hr'⟩)
  go_ret
  exact ⟨_, _, rfl, c', s', hr'⟩

/-- What the cells of a group have. -/
def valAt (la : List Int) (id : Int) : Int := la.getD id.toNat 0

theorem fold_take {l : List Int} {f : Int → Int} {m : Int} {j : Nat} (hj : j < l.length) : ((l.take (j + 1)).map f).foldl min m = min (((l.take j).map f).foldl min m) (f (l.getD j 0)) := by
  rw [List.take_succ_eq_append_getElem hj, List.map_append, List.foldl_append]
  simp [List.getD, hj]

def LeastRel (c : Nat → Nat) (ka : Nat) (w : World) (q : Nat) (la : List Int) (s : Int) (l : List Int) (most : Int) (m i : Value) (wr : World) : Prop :=
  ∃ (c' : Nat → Nat) (j : Nat) (x : Int), i = .int .i64 j ∧ j ≤ l.length ∧ m = .int .i64 x ∧ x = ((l.take j).map (valAt la)).foldl min most ∧ Stp (· = ka) c c' w wr ∧ ArenaAt c' ka wr q la (s + j)

def addRef (r : List Int × Int) (id : Int) : List Int × Int := if r.2 = 0 then (if gaddErr r.1 id = 0 then (r.1 ++ [id], 0) else (r.1, gaddErr r.1 id)) else r

theorem addRef_stuck : ∀ (l : List Int) (r : List Int × Int), r.2 ≠ 0 → l.foldl addRef r = r
  | [], r, _ => rfl
  | x :: l, r, h => by rw [List.foldl_cons, show addRef r x = r by simp [addRef, h]]; exact addRef_stuck l r h

theorem addRef_take {l : List Int} {j : Nat} (hj : j < l.length) (r : List Int × Int) : (l.take (j + 1)).foldl addRef r = addRef ((l.take j).foldl addRef r) (l.getD j 0) := by
  rw [List.take_succ_eq_append_getElem hj, List.foldl_append]
  simp [List.getD, hj]

theorem addRef_split {l : List Int} {j : Nat} (r : List Int × Int) : l.foldl addRef r = (l.drop j).foldl addRef ((l.take j).foldl addRef r) := by
  rw [← List.foldl_append, List.take_append_drop]

def OfRel (c : Nat → Nat) (k : Nat) (w : World) (l : List Int) (i : Value) (wr : World) : Prop :=
  ∃ (c' : Nat → Nat) (j : Nat) (g : List Int), i = .int .i64 j ∧ j ≤ l.length ∧ (l.take j).foldl addRef ([], 0) = (g, 0) ∧ Stp (· = k) c c' w wr ∧ GroupAt c' k wr w.heap.size g

end Go.Proofs.YtiphdedfbafhkaaGreatDoor
