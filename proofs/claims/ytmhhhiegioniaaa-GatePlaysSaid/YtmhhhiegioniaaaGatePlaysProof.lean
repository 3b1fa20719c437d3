/- Rows.GatePlaysSaid is proved: for all lists of things that are done, and all cells, the call of norialaw08.GatePlays returns true, and each argument reads as it read. No condition. -/
import Derived.Test.YtmhhhiegioniaaaFin
import Derived.Test.YtmhhhiegioniaaaGatePlays
namespace Go.Proofs.Ytmhhhiegioniaaa.gatePlays
open Go.ChangeShapes Go.WideShapes Go.ChangeAt Go.RowKit
theorem reads : (Try.f9.params.toList.all fun t => Try.prog.readableRec t && decide (t < Try.prog.types.size)) = true := by kernel_rfl

set_option maxRecDepth 100000 in
theorem lifted (os : Os) (started : os.Started) (H : Type) (enc : TypeId × Value → H) :
    ReturnsInHanded {} Try.checked os 9 .any (Rows.gatePlaysSpec.pre6 enc Try.prog Try.f9 Rows.gatePlaysRow.domain false) (Rows.gatePlaysSpec.post enc Try.prog Try.f9 false true false false) := by
  refine returnsInHanded_of_change (C := Try.checked) Try.own started (by kernel_rfl) Try.func9
    (ChangeSpec.witness6 (enc := enc) (C := Try.checked) false ⟨#[], #[.slice none 0 0, .slice none 0 0], []⟩ 8 (by kernel_rfl) (by kernel_rfl) (by kernel_rfl) (by kernel_rfl)) ?_
  intro W base args ds gs before hval0 hW hcnd hsz
  have hval : ∀ (j : Nat) t v, Try.f9.params[j]? = some t → args[j]? = some v → Value.okWide Try.prog W .any base t v := hval0
  have hW' := hW
  obtain ⟨p, q, hA0, hV, rfl, hfz, hnd⟩ := hW
  have hA : DataW.TrodAll enc Try.prog W 0 (fun _ => true) true Try.f9.params.toList args.toList ds p := hA0
  rw [Try.params9] at hA hval
  obtain ⟨v0, vs0, d0, ds0, p0, q0, hargs, rfl, rfl, h0, r0⟩ := trodAll_cons hA
  obtain ⟨v1, vs1, d1, ds1, p1, q1, rfl, rfl, rfl, h1, r1⟩ := trodAll_cons r0
  obtain ⟨rfl, rfl, rfl⟩ := trodAll_nil r1
  obtain rfl : args = #[v0, v1] := by cases args; simp_all
  obtain ⟨rfl, rfl⟩ := trodVars_none hV
  have hlt := hW'.lt
  clear hA0 hval0
  obtain ⟨ao, n, cap, ops, rfl, hl, _, hlen⟩ := open_in_v (en := Op8.cells) (good := fun _ => True) Try.underlying90 (by kernel_rfl) Op8.len (by decide) dec_op8 (hval 0 90 v0 rfl rfl) h0
  obtain ⟨bo, q, qcap, ids, rfl, hq, _, _⟩ := open_in_ints Try.underlying40 Try.underlying3 (by kernel_rfl) (hval 1 40 v1 rfl rfl) h1
  refine (gplays_walk ao bo n cap q qcap ops ids hl hlen hq).mono fun e W' ⟨he, hg⟩ => ?_
  subst he
  exact ⟨_, rfl, post_law Try.laidOut reads rfl Try.underlying4 rfl ⟨rfl, rfl, rfl⟩ hW' hg⟩

theorem over : Rows.gatePlaysRow.holds Try.pinned (OpenSpec.ofChange Rows.gatePlaysSpec) :=
  OpenClaim.holds_of_wide 9 Try.f9 rfl rfl rfl rfl rfl rfl rfl ⟨rfl, rfl, rfl, rfl, rfl⟩ rfl rfl rfl rfl rfl (by kernel_rfl) Try.func9 (by kernel_rfl)
    (of_decide_eq_true (by kernel_rfl)) (by unfold Func.isWrapper; first | (rw [if_pos (by decide +kernel)]; kernel_rfl) | (rw [if_neg (by decide +kernel)]; exact ⟨rfl, rfl⟩))
    (fun os started H enc _ => lifted os started H enc)

theorem proved : Rows.GatePlaysSaid := over
#print axioms proved
end Go.Proofs.Ytmhhhiegioniaaa.gatePlays
