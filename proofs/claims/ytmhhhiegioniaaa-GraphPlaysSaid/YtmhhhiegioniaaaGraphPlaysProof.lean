/- Rows.GraphPlaysSaid is proved: for all lists of things that are done the call of norialaw13.GraphPlays returns true, and the argument reads as it read. No condition. -/
import Derived.Test.YtmhhhiegioniaaaFin
import Derived.Test.YtmhhhiegioniaaaGraphPlays
namespace Go.Proofs.Ytmhhhiegioniaaa.graphPlays
open Go.ChangeShapes Go.WideShapes Go.ChangeAt Go.RowKit
theorem reads : (Try.f15.params.toList.all fun t => Try.prog.readableRec t && decide (t < Try.prog.types.size)) = true := by kernel_rfl

set_option maxRecDepth 100000 in
theorem lifted (os : Os) (started : os.Started) (H : Type) (enc : TypeId × Value → H) :
    ReturnsInHanded {} Try.checked os 15 .any (Rows.graphPlaysSpec.pre6 enc Try.prog Try.f15 Rows.graphPlaysRow.domain false) (Rows.graphPlaysSpec.post enc Try.prog Try.f15 false true false false) := by
  refine returnsInHanded_of_change (C := Try.checked) Try.own started (by kernel_rfl) Try.func15
    (ChangeSpec.witness6 (enc := enc) (C := Try.checked) false ⟨#[], #[.slice none 0 0], []⟩ 8 (by kernel_rfl) (by kernel_rfl) (by kernel_rfl) (by kernel_rfl)) ?_
  intro W base args ds gs before hval0 hW hcnd hsz
  have hval : ∀ (j : Nat) t v, Try.f15.params[j]? = some t → args[j]? = some v → Value.okWide Try.prog W .any base t v := hval0
  have hW' := hW
  obtain ⟨p, q, hA0, hV, rfl, hfz, hnd⟩ := hW
  have hA : DataW.TrodAll enc Try.prog W 0 (fun _ => true) true Try.f15.params.toList args.toList ds p := hA0
  rw [Try.params15] at hA hval
  obtain ⟨v0, vs0, d0, ds0, p0, q0, hargs, rfl, rfl, h0, r0⟩ := trodAll_cons hA
  obtain ⟨rfl, rfl, rfl⟩ := trodAll_nil r0
  obtain rfl : args = #[v0] := by cases args; simp_all
  obtain ⟨rfl, rfl⟩ := trodVars_none hV
  have hlt := hW'.lt
  clear hA0 hval0
  obtain ⟨ao, n, cap, ops, rfl, hl, hin, hlen⟩ := open_in_v (en := Op13.cells) (good := fun x => In (fun _ => 0) 0 W 1 x.lo x.ln x.lc (x.l.map (Value.int .i64))) Try.underlying121 (by kernel_rfl) Op13.len (by decide) dec_op13 (hval 0 121 v0 rfl rfl) h0
  refine (gplays_walk ao n cap ops hl hlen hin).mono fun e W' ⟨he, hg⟩ => ?_
  subst he
  exact ⟨_, rfl, post_law Try.laidOut reads rfl Try.underlying4 rfl ⟨rfl, rfl, rfl⟩ hW' hg⟩

theorem over : Rows.graphPlaysRow.holds Try.pinned (OpenSpec.ofChange Rows.graphPlaysSpec) :=
  OpenClaim.holds_of_wide 15 Try.f15 rfl rfl rfl rfl rfl rfl rfl ⟨rfl, rfl, rfl, rfl, rfl⟩ rfl rfl rfl rfl rfl (by kernel_rfl) Try.func15 (by kernel_rfl)
    (of_decide_eq_true (by kernel_rfl)) (by unfold Func.isWrapper; first | (rw [if_pos (by decide +kernel)]; kernel_rfl) | (rw [if_neg (by decide +kernel)]; exact ⟨rfl, rfl⟩))
    (fun os started H enc _ => lifted os started H enc)

theorem proved : Rows.GraphPlaysSaid := over
#print axioms proved
end Go.Proofs.Ytmhhhiegioniaaa.graphPlays
