/- Laws of a general kind: the built-in append as a step of a region that draws, onto a slice with its cells, and onto nil. No condition beyond each law's own. -/
import Derived.Test.YtiphdedfbafhkaaGreatDoorMem4
namespace Go.Proofs.YtiphdedfbafhkaaGreatDoor
open Go.RowKit

section
variable {P : Program}
theorem step_row {w : World} {ops : Array Oper} {o : Oper} {a : Act} {K : Act → World → Prop} {Q : Exit → Act → World → Prop} {E : Prop} (hg : o.guard = none) (s x : Operand) (t : TypeId)
    (hop : o.op = Op.call { callee := Callee.builtin Builtin.append, args := #[s, x], argTypes := #[t, t] })
    (c : Nat → Nat) (k : Nat) (e : TypeId) (z : Value) (size bytes : Nat) (ht : P.underlying t = some (.slice e)) (hinfo : (P.info? e).map (fun i => (i.zero, i.size, i.bytes)) = some (some z, size, bytes)) (hzs : z.cells.size = size)
    (ao : Option Addr) (n cap : Nat) (xs : List Value) (hs : a.eval s = .slice ao n cap) (hrow : Row c k w e size ao n cap xs)
    (y : Value) (m : Nat) (news : List Value) (hx : a.eval x = y) (hsrc : Src w size y m news) (h1 : ∀ u ∈ news, u.oneCell' = true)
    (h63 : n + m ≤ maxLen) (hbytes : (n + m) * bytes ≤ 140737488355328)
    (hK : ∀ ao' cap' w', Row (paint c w.heap.size k) k w' e size ao' (n + m) cap' (xs ++ news) → Stp (· = k) c (paint c w.heap.size k) w w' → Others w w' ao → K (a.put o.dst (.slice ao' (n + m) cap')) w') :
    if Region.wanted o (yielded ops a.tmps) = true then Oper.wp P o a w K Q else E := by
  have hw : Region.wanted o (yielded ops a.tmps) = true := by simp [Region.wanted, hg]
  rw [if_pos hw]
  obtain ⟨i, hi, hz, hsize, hby⟩ := info_parts hinfo
  subst hsize; subst hby
  obtain ⟨ao', cap', w', hr, h2, h3, h4⟩ := run_append_row (P := P) w c k t o.type e i z ht hi hz hzs ao n cap xs hrow y m news hsrc h1 h63 hbytes
  unfold Oper.wp
  simp [execOp, hop, resolve, invoke, builtin, hs, hx, hr, Result.andThen]
  exact hK _ _ _ h2 h3 h4

theorem Stp.ofOthers {c c' : Nat → Nat} {k : Nat} {w w' : World} (h : Stp (· = k) c c' w w') (ot : Others w w' none) : Stp (fun _ => False) c c' w w' :=
  ⟨h.os, h.tape, h.output, h.size, h.col, fun i hi _ => ot i hi (fun a ha => by cases ha)⟩

theorem step_nil {w : World} {ops : Array Oper} {o : Oper} {a : Act} {K : Act → World → Prop} {Q : Exit → Act → World → Prop} {E : Prop} (hg : o.guard = none) (s x : Operand) (t : TypeId)
    (hop : o.op = Op.call { callee := Callee.builtin Builtin.append, args := #[s, x], argTypes := #[t, t] })
    (c : Nat → Nat) (k : Nat) (e : TypeId) (z : Value) (size bytes : Nat) (ht : P.underlying t = some (.slice e)) (hinfo : (P.info? e).map (fun i => (i.zero, i.size, i.bytes)) = some (some z, size, bytes)) (hzs : z.cells.size = size)
    (hs : a.eval s = .slice none 0 0) (y : Value) (m : Nat) (news : List Value) (hx : a.eval x = y) (hsrc : Src w size y m news) (h1 : ∀ u ∈ news, u.oneCell' = true)
    (h63 : m ≤ maxLen) (hbytes : m * bytes ≤ 140737488355328)
    (hK : ∀ ao' cap' w', Row (paint c w.heap.size k) k w' e size ao' m cap' news → Stp (fun _ => False) c (paint c w.heap.size k) w w' → K (a.put o.dst (.slice ao' m cap')) w') :
    if Region.wanted o (yielded ops a.tmps) = true then Oper.wp P o a w K Q else E :=
  step_row hg s x t hop c k e z size bytes ht hinfo hzs none 0 0 [] hs (Row.nil _ _ _ _ _) y m news hx hsrc h1 (by omega) (by rw [Nat.zero_add]; exact hbytes) (fun ao' cap' w' h2 h3 h4 => by
    rw [Nat.zero_add] at h2 ⊢
    exact hK ao' cap' w' (by simpa using h2) (h3.ofOthers h4))

theorem wpList_append_fresh {w : World} {ops : Array Oper} {rest : List Oper} {o : Oper} {a : Act} {Q : Exit → Act → World → Prop} (hgd : o.guard = none) (s x : Operand) (t : TypeId)
    (ho : o.op = .call { callee := .builtin .append, args := #[s, x], argTypes := #[t, t] })
    (c : Nat → Nat) (k : Nat) (e : TypeId) (z : Value) (size bytes : Nat) (ht : P.underlying t = some (.slice e)) (hinfo : (P.info? e).map (fun i => (i.zero, i.size, i.bytes)) = some (some z, size, bytes)) (hzs : z.cells.size = size)
    (hs : a.eval s = .slice none 0 0) (y : Value) (m : Nat) (news : List Value) (hx : a.eval x = y) (hsrc : Src w size y m news) (hm : m ≠ 0) (h63 : m ≤ maxLen) (hbytes : m * bytes ≤ 140737488355328)
    (h : ∀ cap' w', Row (paint c w.heap.size k) k w' e size (some ⟨w.heap.size, 0, none⟩) m cap' news → Stp (fun _ => False) c (paint c w.heap.size k) w w' → wpList P ops Q rest (a.put o.dst (.slice (some ⟨w.heap.size, 0, none⟩) m cap')) w') :
    wpList P ops Q (o :: rest) a w := by
  obtain ⟨i, hi, hz, hsize, hby⟩ := info_parts hinfo
  subst hsize; subst hby
  refine wpList_plain hgd fun _ hK => ?_
  obtain ⟨cap', w', hr, h2, h3⟩ := run_append_fresh (P := P) w c k t o.type e i z ht hi hz hzs y m news hsrc hm h63 hbytes
  unfold Oper.wp execOp
  simp only [ho, resolve, invoke, builtin, Sem.run_bind, Sem.run_pure, Result.andThen_ok, List.map_toArray, List.map_cons, List.map_nil, hs, hx, hr]
  exact hK _ _ (h cap' w' h2 h3)
end
end Go.Proofs.YtiphdedfbafhkaaGreatDoor
