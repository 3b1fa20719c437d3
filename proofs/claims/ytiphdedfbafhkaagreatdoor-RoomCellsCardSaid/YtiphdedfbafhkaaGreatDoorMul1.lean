/- A claim's step, in plain Lean, and contracts of the small functions of a try. No condition beyond each contract's own. -/
import Derived.Test.YtiphdedfbafhkaaGreatDoorMul0
import Derived.Test.YtiphdedfbafhkaaGreatDoorBar4b
namespace Go.Proofs.YtiphdedfbafhkaaGreatDoor
open Go.RowKit

/-- A sequencer's numbers: the size, the cells of the cursor and of what was seen last, the buffer's first cell, those who hold back. -/
structure Sq where
  sh : Nat
  cur : Nat
  cac : Nat
  first : Nat
  ids : List Int

/-- How far a claim came. -/
structure Tr where
  n : Int
  stage : Nat
  claimed : Int
  hi : Int
  ids : List Int
  most : Int

def Tr.start (n : Int) : Tr := ⟨n, 0, 0, 0, [], 0⟩
def judgeT (S : Sq) (t : Tr) : Tr := ⟨t.n, if t.most < t.hi - 2 ^ S.sh then 6 else 3, t.claimed, t.hi, t.ids, t.most⟩

def stepT (S : Sq) (la : List Int) (t : Tr) : List Int × Tr × Int :=
  if 5 ≤ t.stage then (la, t, 0)
  else if t.stage = 0 then
    (if nextErr (la.getD S.cur 0) t.n ≠ 0 then (la, t, nextErr (la.getD S.cur 0) t.n)
     else (la, ⟨t.n, 1, la.getD S.cur 0, la.getD S.cur 0 + t.n, t.ids, t.most⟩, 0))
  else if t.stage = 1 then
    (if t.hi - 2 ^ S.sh ≤ la.getD S.cac 0 ∧ la.getD S.cac 0 ≤ t.claimed then (la, ⟨t.n, 4, t.claimed, t.hi, t.ids, t.most⟩, 0)
     else if S.ids = [] then (la, judgeT S ⟨t.n, 2, t.claimed, t.hi, [], t.claimed⟩, 0)
     else (la, ⟨t.n, 2, t.claimed, t.hi, S.ids, t.claimed⟩, 0))
  else if t.stage = 2 then
    (if t.ids.tail = [] then (la, judgeT S ⟨t.n, 2, t.claimed, t.hi, [], min t.most (valAt la (t.ids.headD 0))⟩, 0)
     else (la, ⟨t.n, 2, t.claimed, t.hi, t.ids.tail, min t.most (valAt la (t.ids.headD 0))⟩, 0))
  else if t.stage = 3 then (la.set S.cac t.most, ⟨t.n, 4, t.claimed, t.hi, t.ids, t.most⟩, 0)
  else if la.getD S.cur 0 = t.claimed then (la.set S.cur t.hi, ⟨t.n, 5, t.claimed, t.hi, t.ids, t.most⟩, 0)
  else (la, ⟨t.n, 0, t.claimed, t.hi, t.ids, t.most⟩, 0)

/-- A sequencer: its struct, its buffer, its group. -/
structure SeqIs (c : Nat → Nat) (k : Nat) (w : World) (p q bp gp : Nat) (S : Sq) : Prop where
  st : Blk c k w p [.pointer (some ⟨q, 0, none⟩), .int .i64 S.sh, .int .i64 S.cur, .int .i64 S.cac, .pointer (some ⟨bp, 0, none⟩), .pointer (some ⟨gp, 0, none⟩)] 187
  bf : BufAt c (k + 1) w bp S.sh S.first
  gr : GroupAt c (k + 2) w gp S.ids

section
variable {c : Nat → Nat} {k : Nat} {w : World} {p q bp gp : Nat} {S : Sq}
theorem SeqIs.stp {J : Nat → Prop} {c' : Nat → Nat} {w' : World} (h : SeqIs c k w p q bp gp S) (s : Stp J c c' w w') (h0 : ¬ J k) (h1 : ¬ J (k + 1)) (h2 : ¬ J (k + 2)) : SeqIs c' k w' p q bp gp S :=
  ⟨h.st.stp s h0, h.bf.stp s h1, h.gr.stp s h2⟩
theorem SeqIs.cs (h : SeqIs c k w p q bp gp S) : w.cell? ⟨p, 0, none⟩ = some (.pointer (some ⟨q, 0, none⟩)) ∧ w.cell? ⟨p, 1, none⟩ = some (.int .i64 S.sh) ∧ w.cell? ⟨p, 2, none⟩ = some (.int .i64 S.cur) ∧ w.cell? ⟨p, 3, none⟩ = some (.int .i64 S.cac) ∧ w.cell? ⟨p, 4, none⟩ = some (.pointer (some ⟨bp, 0, none⟩)) ∧ w.cell? ⟨p, 5, none⟩ = some (.pointer (some ⟨gp, 0, none⟩)) ∧ p < w.heap.size :=
  ⟨by simpa using h.st.cell 0, by simpa using h.st.cell 1, by simpa using h.st.cell 2, by simpa using h.st.cell 3, by simpa using h.st.cell 4, by simpa using h.st.cell 5, h.st.lt⟩
end

section
variable (sv : Option Addr) (n stage claimed hi : Int) (ao : Option Addr) (m cap : Nat) (most : Int)
set_option maxRecDepth 100000 in
theorem tdone_any (c : Nat → Nat) (s : Addr) (w : World) {b : Bool} (hb : decide (5 ≤ stage) = b) :
    Calls Tryz.prog 81 #[.agg #[.pointer (some s), .int .i64 n, .int .i64 stage, .int .i64 claimed, .int .i64 hi, .slice ao m cap, .int .i64 most]] w fun e w' => e = .returned (.bool b) ∧ ∃ c', Stp (fun _ => False) c c' w w' := by
  have S := Lib.hid ((Stp.refl (fun _ => False) c w).alloc (.cells #[.pointer (some s), .int .i64 n, .int .i64 stage, .int .i64 claimed, .int .i64 hi, .slice ao m cap, .int .i64 most] 36) 0)
  go_enter Tryz.func81, Tryz.ntmps81
  go_wp2
  go_ret
  exact ⟨by first | rfl | simp, _, S.out⟩

set_option maxRecDepth 100000 in
theorem tdone_nil (c : Nat → Nat) (w : World) :
    Calls Tryz.prog 81 #[.agg #[.pointer none, .int .i64 n, .int .i64 stage, .int .i64 claimed, .int .i64 hi, .slice ao m cap, .int .i64 most]] w fun e w' => e = .returned (.bool true) ∧ ∃ c', Stp (fun _ => False) c c' w w' := by
  have S := Lib.hid ((Stp.refl (fun _ => False) c w).alloc (.cells #[.pointer none, .int .i64 n, .int .i64 stage, .int .i64 claimed, .int .i64 hi, .slice ao m cap, .int .i64 most] 36) 0)
  go_enter Tryz.func81, Tryz.ntmps81
  go_wp2
  go_ret
  exact ⟨by first | rfl | simp, _, S.out⟩

set_option maxRecDepth 100000 in
theorem tfull_any (c : Nat → Nat) (w : World) {b : Bool} (hb : (stage == 6) = b) :
    Calls Tryz.prog 86 #[.agg #[.pointer sv, .int .i64 n, .int .i64 stage, .int .i64 claimed, .int .i64 hi, .slice ao m cap, .int .i64 most]] w fun e w' => e = .returned (.bool b) ∧ ∃ c', Stp (fun _ => False) c c' w w' := by
  have S := Lib.hid ((Stp.refl (fun _ => False) c w).alloc (.cells #[.pointer sv, .int .i64 n, .int .i64 stage, .int .i64 claimed, .int .i64 hi, .slice ao m cap, .int .i64 most] 36) 0)
  go_enter Tryz.func86, Tryz.ntmps86
  go_wp2
  go_ret
  exact ⟨by first | rfl | simp, _, S.out⟩

set_option maxRecDepth 100000 in
theorem tlast_any (c : Nat → Nat) (w : World) :
    Calls Tryz.prog 147 #[.agg #[.pointer sv, .int .i64 n, .int .i64 stage, .int .i64 claimed, .int .i64 hi, .slice ao m cap, .int .i64 most]] w fun e w' => e = .returned (.int .i64 (if stage = 5 then hi else -1)) ∧ ∃ c', Stp (fun _ => False) c c' w w' := by
  have S := Lib.hid ((Stp.refl (fun _ => False) c w).alloc (.cells #[.pointer sv, .int .i64 n, .int .i64 stage, .int .i64 claimed, .int .i64 hi, .slice ao m cap, .int .i64 most] 36) 0)
  by_cases h : stage = 5
  · have t : (stage != 5) = false := by simpa using h
    rw [if_pos h]
    clear h
    go_enter Tryz.func147, Tryz.ntmps147
    go_wp2
    go_ret
    exact ⟨by first | rfl | simp, _, S.out⟩
  · have t : (stage != 5) = true := by simpa using h
    rw [if_neg h]
    clear h
    go_enter Tryz.func147, Tryz.ntmps147
    go_wp2
    go_ret
    exact ⟨by first | rfl | simp, _, S.out⟩
end
end Go.Proofs.YtiphdedfbafhkaaGreatDoor
