/- One law more of incoming slices. No condition beyond its own. -/
import Derived.Test.YtiphdedfbafhkaaGreatDoorZBB
namespace Go.Proofs.YtiphdedfbafhkaaGreatDoor
open Go.RowKit Go.ChangeShapes Go.WideShapes Go.Deep Go.Joins
section
variable {H : Type} {enc : TypeId × Value → H} {P : Program} {w : World} {base : Nat} {spare : Nat → Bool} {held : Bool}
theorem open_in_ints {kd : IntKind} {r : Reach} {b0 : Nat} {t e : TypeId} {v : Value} {d : DataW H} {ps : List MemPlace}
    (ht : P.underlying t = some (.slice e)) (he : P.underlying e = some (.int kd)) (hC : P.cellsOf e = 1) (hval : Value.okWide P w r b0 t v) (h : DataW.Trod enc P w base spare held t v d ps) :
    ∃ (ao : Option Addr) (len cap : Nat) (l : List Int), v = .slice ao len cap ∧ In (fun _ => 0) 0 w 1 ao len cap (l.map (Value.int kd)) ∧ (∀ x ∈ l, (Lit.int kd x).wf = true) ∧ l.length = len := by
  obtain ⟨ao, len, cap, l, hv, hin, hg, hl⟩ := open_in_v (en := fun x => [Value.int kd x]) (good := fun x => (Lit.int kd x).wf = true) ht hC (fun _ => rfl) (by decide)
    (fun n cs' y hy => by obtain ⟨x, rfl, _, hw⟩ := DataW.trod_int he hy; exact ⟨x, rfl, hw⟩) hval h
  refine ⟨ao, len, cap, l, hv, ?_, hg, hl⟩
  have : l.flatMap (fun x => [Value.int kd x]) = l.map (Value.int kd) := by
    clear hin hg hl
    induction l with
    | nil => rfl
    | cons x l ih => rw [List.flatMap_cons, ih]; rfl
  rw [this] at hin
  exact hin
end
end Go.Proofs.YtiphdedfbafhkaaGreatDoor
