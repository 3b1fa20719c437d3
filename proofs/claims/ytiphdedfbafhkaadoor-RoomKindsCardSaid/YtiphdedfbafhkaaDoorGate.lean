/- Contracts of the gate's Group: Add, Cells, Len, Least, Who, Scan; of Scan's functions; and of the document's Least. No condition beyond each contract's own. -/
import Derived.Test.YtiphdedfbafhkaaDoorSlices
import Derived.Test.YtiphdedfbafhkaaDoorCells3
namespace Go.Proofs.YtiphdedfbafhkaaDoor
open Go.RowKit

def GroupAt (c : Nat → Nat) (k : Nat) (w : World) (p : Nat) (l : List Int) : Prop :=
  ∃ ao cap, Blk c k w p [.slice ao l.length cap] 141 ∧ Row c k w 3 1 ao l.length cap (l.map (Value.int .i64))

theorem GroupAt.stp {J : Nat → Prop} {c c' : Nat → Nat} {k : Nat} {w w' : World} {p : Nat} {l : List Int} (h : GroupAt c k w p l) (st : Stp J c c' w w') (hk : ¬ J k) : GroupAt c' k w' p l := by
  obtain ⟨ao, cap, hb, hr⟩ := h
  exact ⟨ao, cap, hb.stp st hk, hr.stp st hk⟩

/-- What is wrong with a cell that is put in; 0: nothing. -/
def gaddErr (l : List Int) (id : Int) : Int := if id < 0 ∨ 2097152 ≤ id then 1 else if id ∈ l then 4 else if (32 : Int) ≤ (l.length : Int) then 8 else 0

theorem gcells_nil (w : World) :
    Calls Tryd.prog 92 #[.pointer none] w fun e w' => e = .returned (.slice none 0 0) ∧ w = w' := by
  go_enter Tryd.func92, Tryd.ntmps92
  go_wp2
  go_ret
  exact ⟨rfl, rfl⟩

theorem gcells_any {c : Nat → Nat} {k : Nat} {w : World} {p : Nat} {l : List Int} (h : GroupAt c k w p l) (k2 : Nat) (hl : (l.length : Int) ≤ 1048576) :
    Calls Tryd.prog 92 #[.pointer (some ⟨p, 0, none⟩)] w fun e w' => ∃ ao' cap', e = .returned (.slice ao' l.length cap') ∧ ∃ c', Stp (fun _ => False) c c' w w' ∧ Row c' k2 w' 3 1 ao' l.length cap' (l.map (Value.int .i64)) := by
  obtain ⟨ao, cap, hb, hr⟩ := h
  have c0 := hb.cell 0
  simp at c0
  have Hr := Lib.hid hr
  have Hl := Lib.hid hl
  clear hb hr hl
  go_enter Tryd.func92, Tryd.ntmps92
  go_wp2_with (go_at_call 98; refine (clone_in Hr.out.toIn k2 Hl.out).mono ?_; rintro e w' ⟨ao', cap', rfl, c', s', hr'⟩)
  go_ret
  exact ⟨_, _, rfl, c', s', hr'⟩

/-- What the cells of a group have. -/
def valAt (la : List Int) (id : Int) : Int := la.getD id.toNat 0

theorem fold_take {l : List Int} {f : Int → Int} {m : Int} {j : Nat} (hj : j < l.length) : ((l.take (j + 1)).map f).foldl min m = min (((l.take j).map f).foldl min m) (f (l.getD j 0)) := by
  rw [List.take_succ_eq_append_getElem hj, List.map_append, List.foldl_append]
  simp [List.getD, hj]

def LeastRel (c : Nat → Nat) (ka : Nat) (w : World) (q : Nat) (la : List Int) (s : Int) (l : List Int) (most : Int) (m i : Value) (wr : World) : Prop :=
  ∃ (c' : Nat → Nat) (j : Nat) (x : Int), i = .int .i64 j ∧ j ≤ l.length ∧ m = .int .i64 x ∧ x = ((l.take j).map (valAt la)).foldl min most ∧ Stp (· = ka) c c' w wr ∧ ArenaAt c' ka wr q la (s + j)

def addRef (r : List Int × Int) (id : Int) : List Int × Int := if r.2 = 0 then (if gaddErr r.1 id = 0 then (r.1 ++ [id], 0) else (r.1, gaddErr r.1 id)) else r

theorem addRef_stuck : ∀ (l : List Int) (r : List Int × Int), r.2 ≠ 0 → l.foldl addRef r = r
  | [], r, _ => rfl
  | x :: l, r, h => by rw [List.foldl_cons, show addRef r x = r by simp [addRef, h]]; exact addRef_stuck l r h

theorem addRef_take {l : List Int} {j : Nat} (hj : j < l.length) (r : List Int × Int) : (l.take (j + 1)).foldl addRef r = addRef ((l.take j).foldl addRef r) (l.getD j 0) := by
  rw [List.take_succ_eq_append_getElem hj, List.foldl_append]
  simp [List.getD, hj]

theorem addRef_split {l : List Int} {j : Nat} (r : List Int × Int) : l.foldl addRef r = (l.drop j).foldl addRef ((l.take j).foldl addRef r) := by
  rw [← List.foldl_append, List.take_append_drop]

def OfRel (c : Nat → Nat) (k : Nat) (w : World) (l : List Int) (i : Value) (wr : World) : Prop :=
  ∃ (c' : Nat → Nat) (j : Nat) (g : List Int), i = .int .i64 j ∧ j ≤ l.length ∧ (l.take j).foldl addRef ([], 0) = (g, 0) ∧ Stp (· = k) c c' w wr ∧ GroupAt c' k wr w.heap.size g

end Go.Proofs.YtiphdedfbafhkaaDoor
