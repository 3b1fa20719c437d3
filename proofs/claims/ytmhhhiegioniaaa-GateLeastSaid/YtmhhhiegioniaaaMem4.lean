/- Lemmas of a general kind: arguments that are slices of numbers, or of structs of one-cell fields, opened. No condition beyond each lemma's own. -/
import Derived.Test.YtmhhhiegioniaaaMem3
import Derived.Test.YtmhhhiegioniaaaRows
import Derived.Lib.SmallJoins
namespace Go.Proofs.Ytmhhhiegioniaaa
open Go.RowKit Go.ChangeShapes Go.WideShapes Go.Deep Go.Joins

section
variable {H : Type} {enc : TypeId × Value → H} {P : Program} {w : World} {base : Nat} {spare : Nat → Bool} {held : Bool}

/-- A slice argument, opened: its elements are such as `dec` says. -/
theorem open_in_v {α : Type} {en : α → List Value} {good : α → Prop} {r : Reach} {b0 : Nat} {t e : TypeId} {m : Nat} {v : Value} {d : DataW H} {ps : List MemPlace}
    (ht : P.underlying t = some (.slice e)) (hC : P.cellsOf e = m) (hm : ∀ x, (en x).length = m) (h0 : 0 < m)
    (dec : ∀ n cs' y, DataW.trod enc P w base spare held n e cs' = some y → ∃ x, cs' = en x ∧ good x) (hval : Value.okWide P w r b0 t v) (h : DataW.Trod enc P w base spare held t v d ps) :
    ∃ (ao : Option Addr) (len cap : Nat) (l : List α), v = .slice ao len cap ∧ In (fun _ => 0) 0 w m ao len cap (l.flatMap en) ∧ (∀ x ∈ l, good x) ∧ l.length = len := by
  obtain ⟨a, len, cap, rfl⟩ := okWide_slice ht hval
  obtain ⟨fuel, hf⟩ := h
  obtain ⟨ao, len', cap', l, hcs, hin, hg, hl⟩ := open_in ht hC hm h0 dec hf
  have e : (Value.slice a len cap).cells.toList = [.slice a len cap] := rfl
  rw [e] at hcs
  simp only [List.cons.injEq, Value.slice.injEq, and_true] at hcs
  obtain ⟨rfl, rfl, rfl⟩ := hcs
  exact ⟨a, len, cap, l, rfl, hin, hg, hl⟩

theorem open_in_ints {kd : IntKind} {r : Reach} {b0 : Nat} {t e : TypeId} {v : Value} {d : DataW H} {ps : List MemPlace}
    (ht : P.underlying t = some (.slice e)) (he : P.underlying e = some (.int kd)) (hC : P.cellsOf e = 1) (hval : Value.okWide P w r b0 t v) (h : DataW.Trod enc P w base spare held t v d ps) :
    ∃ (ao : Option Addr) (len cap : Nat) (l : List Int), v = .slice ao len cap ∧ In (fun _ => 0) 0 w 1 ao len cap (l.map (Value.int kd)) ∧ (∀ x ∈ l, (Lit.int kd x).wf = true) ∧ l.length = len := by
  obtain ⟨ao, len, cap, l, hv, hin, hg, hl⟩ := open_in_v (en := fun x => [Value.int kd x]) (good := fun x => (Lit.int kd x).wf = true) ht hC (fun _ => rfl) (by decide)
    (fun n cs' y hy => by obtain ⟨x, rfl, _, hw⟩ := DataW.trod_int he hy; exact ⟨x, rfl, hw⟩) hval h
  refine ⟨ao, len, cap, l, hv, ?_, hg, hl⟩
  have : l.flatMap (fun x => [Value.int kd x]) = l.map (Value.int kd) := by
    clear hin hg hl
    induction l with
    | nil => rfl
    | cons x l ih => rw [List.flatMap_cons, ih]; rfl
  rw [this] at hin
  exact hin

/-- A struct of one-cell fields, read: its cells, and each field's own reading. -/
theorem dec_fields {e : TypeId} {fs : Array Field} (he : P.underlying e = some (.struct fs)) (hone : oneCellFields P fs = true) (hC : P.cellsOf e = fs.size) {n : Nat} {cs : List Value} {y : DataW H × List MemPlace} (h : DataW.trod enc P w base spare held n e cs = some y) :
    cs.length = fs.size ∧ ∃ n', ∀ (j : Nat) (f : Field), fs[j]? = some f → ∃ (v : Value) (z : DataW H × List MemPlace), cs[j]? = some v ∧ DataW.trod enc P w base spare held n' f.type [v] = some z := by
  obtain ⟨ys, n', _, _, hlen, hyl, hf⟩ := DataW.trod_struct he h
  rw [hC] at hlen
  refine ⟨hlen, n', fun j f hj => ?_⟩
  obtain ⟨ho, hk⟩ := hone_of hone j f hj
  have hjl : j < fs.size := (Array.getElem?_eq_some_iff.1 hj).1
  have hv : cs[j]? = some (cs[j]'(by omega)) := List.getElem?_eq_getElem (by omega)
  have h1 := hf j f hj
  rw [ho, hk] at h1
  have h2 : (cs.drop j).take 1 = [cs[j]'(by omega)] := by
    rw [List.drop_eq_getElem_cons (by omega)]
    rfl
  rw [h2, List.getElem?_eq_getElem (show j < ys.length by omega)] at h1
  exact ⟨_, _, hv, h1⟩
end
end Go.Proofs.Ytmhhhiegioniaaa
