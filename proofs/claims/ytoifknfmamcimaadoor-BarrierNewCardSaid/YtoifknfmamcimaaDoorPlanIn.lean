/- A barrier's plan as an argument, opened. No condition beyond each lemma's own. -/
import Derived.Test.YtoifknfmamcimaaDoorBarLooks
import Derived.Test.YtoifknfmamcimaaDoorFinDoor
namespace Go.Proofs.YtoifknfmamcimaaDoor
open Go.RowKit Go.ChangeShapes Go.WideShapes Go.Deep Go.Joins

section
variable {H : Type} {enc : TypeId × Value → H} {P : Program} {w : World} {base : Nat} {spare : Nat → Bool} {held : Bool}

/-- A struct of one-cell fields by value, opened: its cells, each with its reading. -/
theorem open_aggN {r : Reach} {b0 : Nat} {t : TypeId} {fs : Array Field} {v : Value} {d : DataW H} {ps : List MemPlace} (hs : P.underlying t = some (.struct fs)) (hone : oneCellFields P fs = true) (hC : P.cellsOf t = fs.size)
    (hv : Value.okWide P w r b0 t v) (h : DataW.Trod enc P w base spare held t v d ps) :
    ∃ cs : Array Value, v = .agg cs ∧ cs.size = fs.size ∧ ∃ n, ∀ (j : Nat) (f : Field), fs[j]? = some f → ∃ (u : Value) (z : DataW H × List MemPlace), cs[j]? = some u ∧ DataW.trod enc P w base spare held n f.type [u] = some z := by
  obtain ⟨cs, rfl, hsz⟩ := okWide_struct hs hv
  obtain ⟨fuel, hf⟩ := h
  have hf' : DataW.trod enc P w base spare held fuel t cs.toList = some (d, ps) := hf
  obtain ⟨hl, n', hj⟩ := dec_fields hs hone hC hf'
  exact ⟨cs, rfl, by simpa using hl, n', fun j f e => by
    obtain ⟨u, z, h1, h2⟩ := hj j f e
    exact ⟨u, z, by simpa using h1, h2⟩⟩

theorem trod_ints {kd : IntKind} {n : Nat} {t e : TypeId} {v : Value} {z : DataW H × List MemPlace}
    (ht : P.underlying t = some (.slice e)) (he : P.underlying e = some (.int kd)) (hC : P.cellsOf e = 1) (h : DataW.trod enc P w base spare held n t [v] = some z) :
    ∃ (ao : Option Addr) (len cap : Nat) (l : List Int), v = .slice ao len cap ∧ In (fun _ => 0) 0 w 1 ao len cap (l.map (Value.int kd)) ∧ (∀ x ∈ l, (Lit.int kd x).wf = true) ∧ l.length = len := by
  obtain ⟨ao, len, cap, l, hv, hin, hg, hl⟩ := open_in (en := fun x => [Value.int kd x]) (good := fun x => (Lit.int kd x).wf = true) ht hC (fun _ => rfl) (by decide)
    (fun n cs' y hy => by obtain ⟨x, rfl, _, hw⟩ := DataW.trod_int he hy; exact ⟨x, rfl, hw⟩) h
  refine ⟨ao, len, cap, l, by simpa using hv, ?_, hg, hl⟩
  have : l.flatMap (fun x => [Value.int kd x]) = l.map (Value.int kd) := by
    clear hin hg hl
    induction l with
    | nil => rfl
    | cons x l ih => rw [List.flatMap_cons, ih]; rfl
  rw [this] at hin
  exact hin
end

set_option maxRecDepth 100000 in
theorem open_plan {H : Type} {enc : TypeId × Value → H} {w : World} {base : Nat} {spare : Nat → Bool} {held : Bool} {r : Reach} {b0 : Nat} {v : Value} {d : DataW H} {ps : List MemPlace}
    (hv : Value.okWide Tryd.prog w r b0 25 v) (h : DataW.Trod enc Tryd.prog w base spare held 25 v d ps) :
    ∃ (p : Pln) (ao : Option Addr) (cap : Nat) (so : Option Addr) (scap : Nat), v = .agg #[.int .i64 p.cursor, .slice ao p.after.length cap, .bool p.buffer, .slice so p.shown.length scap, .int .i64 p.alert, .int .u8 p.shift] ∧ (Tab w → PlnIn w p ao cap so scap) := by
  obtain ⟨cs, rfl, hsz, n, hf⟩ := open_aggN Tryd.underlying25 (by kernel_rfl) (by kernel_rfl) hv h
  obtain ⟨u0, z0, c0, t0⟩ := hf 0 _ rfl
  obtain ⟨u1, z1, c1, t1⟩ := hf 1 _ rfl
  obtain ⟨u2, z2, c2, t2⟩ := hf 2 _ rfl
  obtain ⟨u3, z3, c3, t3⟩ := hf 3 _ rfl
  obtain ⟨u4, z4, c4, t4⟩ := hf 4 _ rfl
  obtain ⟨u5, z5, c5, t5⟩ := hf 5 _ rfl
  obtain ⟨x0, e0, _, w0⟩ := DataW.trod_int Tryd.underlying2 t0
  obtain ⟨ao, m, cap, l, rfl, hl, _, hll⟩ := trod_ints Tryd.underlying22 Tryd.underlying2 (by kernel_rfl) t1
  obtain ⟨b, e2, _⟩ := DataW.trod_bool Tryd.underlying4 t2
  obtain ⟨so, k, scap, sl, rfl, hs, hsok, hsl⟩ := trod_ints Tryd.underlying23 Tryd.underlying5 (by kernel_rfl) t3
  obtain ⟨x4, e4, _, w4⟩ := DataW.trod_int Tryd.underlying2 t4
  obtain ⟨x5, e5, _, w5⟩ := DataW.trod_int Tryd.underlying5 t5
  have b5 := bounds_u8 w5
  obtain ⟨y5, rfl⟩ := Int.eq_ofNat_of_zero_le b5.1
  simp at e0 e2 e4 e5
  subst e0 e2 e4 e5 hll hsl
  refine ⟨⟨x0, l, b, sl, x4, y5⟩, ao, cap, so, scap, ?_, fun ht => ⟨hl, hs, fun t h => bounds_u8 (hsok t h), show y5 ≤ 255 by omega, ht⟩⟩
  obtain ⟨a0, a1, a2, a3, a4, a5, rfl⟩ : ∃ a0 a1 a2 a3 a4 a5, cs = #[a0, a1, a2, a3, a4, a5] := by
    obtain ⟨L⟩ := cs
    match L, hsz with
    | [a0, a1, a2, a3, a4, a5], _ => exact ⟨a0, a1, a2, a3, a4, a5, rfl⟩
  simp at c0 c1 c2 c3 c4 c5
  subst c0 c1 c2 c3 c4 c5
  rfl
end Go.Proofs.YtoifknfmamcimaaDoor
