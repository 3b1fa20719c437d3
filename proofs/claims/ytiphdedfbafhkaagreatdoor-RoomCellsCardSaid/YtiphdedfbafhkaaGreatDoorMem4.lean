/- Lemmas of a general kind: arguments that are slices of numbers, or of structs of one-cell fields, opened. No condition beyond each lemma's own. -/
import Derived.Test.YtiphdedfbafhkaaGreatDoorMem3
import Derived.Test.YtiphdedfbafhkaaGreatDoorRows
import Derived.Lib.SmallJoins
import Derived.Deep.RegionLaw
namespace Go.Proofs.YtiphdedfbafhkaaGreatDoor
open Go.RowKit Go.ChangeShapes Go.WideShapes Go.Deep Go.Joins

section
variable {H : Type} {enc : TypeId × Value → H} {P : Program} {w : World} {base : Nat} {spare : Nat → Bool} {held : Bool}

/-- A slice argument, opened: its elements are such as `dec` says. -/
theorem open_in_v {α : Type} {en : α → List Value} {good : α → Prop} {r : Reach} {b0 : Nat} {t e : TypeId} {m : Nat} {v : Value} {d : DataW H} {ps : List MemPlace}
    (ht : P.underlying t = some (.slice e)) (hC : P.cellsOf e = m) (hm : ∀ x, (en x).length = m) (h0 : 0 < m)
    (dec : ∀ n cs' y, DataW.trod enc P w base spare held n e cs' = some y → ∃ x, cs' = en x ∧ good x) (hval : Value.okWide P w r b0 t v) (h : DataW.Trod enc P w base spare held t v d ps) :
    ∃ (ao : Option Addr) (len cap : Nat) (l : List α), v = .slice ao len cap ∧ In (fun _ => 0) 0 w m ao len cap (l.flatMap en) ∧ (∀ x ∈ l, good x) ∧ l.length = len := by
  obtain ⟨a, len, cap, rfl⟩ := okWide_slice ht hval
  obtain ⟨fuel, hf⟩ := h
  obtain ⟨ao, len', cap', l, hcs, hin, hg, hl⟩ := open_in ht hC hm h0 dec hf
  have e : (Value.slice a len cap).cells.toList = [.slice a len cap] := rfl
  rw [e] at hcs
  simp only [List.cons.injEq, Value.slice.injEq, and_true] at hcs
  obtain ⟨rfl, rfl, rfl⟩ := hcs
  exact ⟨a, len, cap, l, rfl, hin, hg, hl⟩

theorem open_in_ints {kd : IntKind} {r : Reach} {b0 : Nat} {t e : TypeId} {v : Value} {d : DataW H} {ps : List MemPlace}
    (ht : P.underlying t = some (.slice e)) (he : P.underlying e = some (.int kd)) (hC : P.cellsOf e = 1) (hval : Value.okWide P w r b0 t v) (h : DataW.Trod enc P w base spare held t v d ps) :
    ∃ (ao : Option Addr) (len cap : Nat) (l : List Int), v = .slice ao len cap ∧ In (fun _ => 0) 0 w 1 ao len cap (l.map (Value.int kd)) ∧ (∀ x ∈ l, (Lit.int kd x).wf = true) ∧ l.length = len := by
  obtain ⟨ao, len, cap, l, hv, hin, hg, hl⟩ := open_in_v (en := fun x => [Value.int kd x]) (good := fun x => (Lit.int kd x).wf = true) ht hC (fun _ => rfl) (by decide)
    (fun n cs' y hy => by obtain ⟨x, rfl, _, hw⟩ := DataW.trod_int he hy; exact ⟨x, rfl, hw⟩) hval h
  refine ⟨ao, len, cap, l, hv, ?_, hg, hl⟩
  have : l.flatMap (fun x => [Value.int kd x]) = l.map (Value.int kd) := by
    clear hin hg hl
    induction l with
    | nil => rfl
    | cons x l ih => rw [List.flatMap_cons, ih]; rfl
  rw [this] at hin
  exact hin

/-- A struct of one-cell fields, read: its cells, and each field's own reading. -/
theorem dec_fields {e : TypeId} {fs : Array Field} (he : P.underlying e = some (.struct fs)) (hone : oneCellFields P fs = true) (hC : P.cellsOf e = fs.size) {n : Nat} {cs : List Value} {y : DataW H × List MemPlace} (h : DataW.trod enc P w base spare held n e cs = some y) :
    cs.length = fs.size ∧ ∃ n', ∀ (j : Nat) (f : Field), fs[j]? = some f → ∃ (v : Value) (z : DataW H × List MemPlace), cs[j]? = some v ∧ DataW.trod enc P w base spare held n' f.type [v] = some z := by
  obtain ⟨ys, n', _, _, hlen, hyl, hf⟩ := DataW.trod_struct he h
  rw [hC] at hlen
  refine ⟨hlen, n', fun j f hj => ?_⟩
  obtain ⟨ho, hk⟩ := hone_of hone j f hj
  have hjl : j < fs.size := (Array.getElem?_eq_some_iff.1 hj).1
  have hv : cs[j]? = some (cs[j]'(by omega)) := List.getElem?_eq_getElem (by omega)
  have h1 := hf j f hj
  rw [ho, hk] at h1
  have h2 : (cs.drop j).take 1 = [cs[j]'(by omega)] := by
    rw [List.drop_eq_getElem_cons (by omega)]
    rfl
  rw [h2, List.getElem?_eq_getElem (show j < ys.length by omega)] at h1
  exact ⟨_, _, hv, h1⟩
end

section
variable {P : Program}

/-- The built-in append onto nil, of some elements: a new array. -/
theorem run_append_fresh (w : World) (c : Nat → Nat) (k : Nat) (t ty e : TypeId) (i : TypeInfo) (z : Value) (ht : P.underlying t = some (.slice e)) (hi : P.info? e = some i) (hz : i.zero = some z) (hzs : z.cells.size = i.size)
    (y : Value) (m : Nat) (news : List Value) (hsrc : Src w i.size y m news) (hm : m ≠ 0) (h63 : m ≤ maxLen) (hbytes : m * i.bytes ≤ 140737488355328) :
    ∃ cap' w', (Builtin.append_ #[t, t] ty #[.slice none 0 0, y]).run P w = .ok (.slice (some ⟨w.heap.size, 0, none⟩) m cap') w' ∧
      Row (paint c w.heap.size k) k w' e i.size (some ⟨w.heap.size, 0, none⟩) m cap' news ∧ Stp (fun _ => False) c (paint c w.heap.size k) w w' := by
  rcases hsrc with ⟨rfl, rfl, rfl⟩ | ⟨a, cc, rfl, hl, hnews⟩
  · exact absurd rfl hm
  · have hsmall : m ≤ 9223372036854775807 := by simp only [maxLen] at h63; omega
    have hr := run_append_nil (P := P) w t ty e i z ht hi hz a m cc news hl hnews (by omega) (by omega) (by omega)
    refine ⟨_, _, hr, ?_, ⟨rfl, rfl, rfl, by simp, fun j hj => paint_lt hj, fun j hj _ => Below.heap_alloc w.drew _ j hj⟩⟩
    have hge := grownCap_ge w m 0 e
    have hcm : grownCap w m 0 e ≤ maxLen := grownCap_le_maxLen w m 0 e h63
    refine ⟨hl, hge, hcm, rfl, paint_ge (Nat.le_refl _), (news.toArray ++ Builtin.zeroCells z.cells (grownCap w m 0 e - m)).toList, ?_, ?_, ?_⟩
    · rw [Array.toArray_toList]; exact heap_alloc_new w.drew _
    · simp only [Array.length_toList, Array.size_append, List.size_toArray, size_zeroCells, hzs, hl, ← Nat.add_mul, Nat.zero_add]
      apply Nat.le_of_eq; congr 1; omega
    · simp only [Array.toList_append, List.drop_zero]
      rw [← hl]
      exact List.take_left

theorem step_append_fresh {w : World} {ops : Array Oper} {o : Oper} {a : Act} {K : Act → World → Prop} {Q : Exit → Act → World → Prop} {E : Prop} (hg : o.guard = none) (s x : Operand) (t : TypeId)
    (hop : o.op = Op.call { callee := Callee.builtin Builtin.append, args := #[s, x], argTypes := #[t, t] })
    (c : Nat → Nat) (k : Nat) (e : TypeId) (z : Value) (size bytes : Nat) (ht : P.underlying t = some (.slice e)) (hinfo : (P.info? e).map (fun i => (i.zero, i.size, i.bytes)) = some (some z, size, bytes)) (hzs : z.cells.size = size)
    (hs : a.eval s = .slice none 0 0) (y : Value) (m : Nat) (news : List Value) (hx : a.eval x = y) (hsrc : Src w size y m news) (hm : m ≠ 0) (h63 : m ≤ maxLen) (hbytes : m * bytes ≤ 140737488355328)
    (hK : ∀ cap' w', Row (paint c w.heap.size k) k w' e size (some ⟨w.heap.size, 0, none⟩) m cap' news → Stp (fun _ => False) c (paint c w.heap.size k) w w' → K (a.put o.dst (.slice (some ⟨w.heap.size, 0, none⟩) m cap')) w') :
    if Region.wanted o (yielded ops a.tmps) = true then Oper.wp P o a w K Q else E := by
  have hw : Region.wanted o (yielded ops a.tmps) = true := by simp [Region.wanted, hg]
  rw [if_pos hw]
  obtain ⟨i, hi, hz, hsize, hby⟩ := info_parts hinfo
  subst hsize; subst hby
  obtain ⟨cap', w', hr, h2, h3⟩ := run_append_fresh (P := P) w c k t o.type e i z ht hi hz hzs y m news hsrc hm h63 hbytes
  unfold Oper.wp
  simp [execOp, hop, resolve, invoke, builtin, hs, hx, hr, Result.andThen]
  exact hK _ _ h2 h3
end
end Go.Proofs.YtiphdedfbafhkaaGreatDoor
