/- Rows.RoomJoinsCardSaid is proved: for all inputs the call of norialaw14.RoomJoins returns true, and each argument reads as it read; the two tables of math/bits are tied to the program's text. No condition besides. -/
import Derived.Test.YtiphdedfbafhkaaDoorFinDoor
import Derived.Test.YtiphdedfbafhkaaDoorJoins
import Derived.Test.YtiphdedfbafhkaaDoorMem4
namespace Go.Proofs.YtiphdedfbafhkaaDoor.roomJoins
open Go.ChangeShapes Go.WideShapes Go.ChangeAt Go.RowKit
theorem dec_row {H : Type} {enc : TypeId × Value → H} {w : World} {base : Nat} {spare : Nat → Bool} {held : Bool} (n : Nat) (cs : List Value) (y : DataW H × List MemPlace) (h : DataW.trod enc Tryd.prog w base spare held n 46 cs = some y) : ∃ x : RowV, cs = x.cells ∧ x.good w := by
    obtain ⟨ao, len, cap, l, hcs, hin, _, _⟩ := open_in (en := fun x => [Value.int .i64 x]) (good := fun x => (Lit.int .i64 x).wf = true) Tryd.underlying46 (by kernel_rfl) (fun _ => rfl) (by decide)
      (fun n cs' y hy => by obtain ⟨x, rfl, _, hw⟩ := DataW.trod_int Tryd.underlying2 hy; exact ⟨x, rfl, hw⟩) h
    refine ⟨⟨ao, len, cap, l⟩, hcs, ?_⟩
    have e := flat_ints l
    rw [e] at hin
    exact hin
theorem reads : (Tryd.f4.params.toList.all fun t => Tryd.prog.readableRec t && decide (t < Tryd.prog.types.size)) = true := by kernel_rfl

set_option maxRecDepth 100000 in
theorem lifted (os : Os) (started : os.Started) (H : Type) (enc : TypeId × Value → H) :
    ReturnsInHanded {} Tryd.checked os 4 .any (fun w args => (Rows.roomJoinsSpec.pre enc Tryd.prog Tryd.f4 [] false w args ∧ laidMetH Tryd.prog bitsLaid w) ∧ sizedMet enc Tryd.prog Tryd.f4 (OpenSpec.ofChange Rows.roomJoinsSpec) false w args)
      (Rows.roomJoinsSpec.post enc Tryd.prog Tryd.f4 false true false false) := by
  refine returnsInHanded_of_change_and (C := Tryd.checked) (X := fun w _ => laidMetH Tryd.prog bitsLaid w) (fun _ _ _ hh h => h.of_heap hh) Tryd.own started (by kernel_rfl) Tryd.func4
    (ChangeSpec.witness_shaped (enc := enc) (C := Tryd.checked) (os := os) (X := fun w _ => laidMetH Tryd.prog bitsLaid w) false (World.doorLaid Tryd.prog 400 os) #[.slice none 0 0] 8 rfl (World.shaped_of_RefB (by kernel_rfl) (by kernel_rfl)) (by kernel_rfl) (by kernel_rfl) (by kernel_rfl) (door_met os _)) ?_
  intro W base args ds gs before hval0 hW _ _ hL hsz
  have hval : ∀ (j : Nat) t v, Tryd.f4.params[j]? = some t → args[j]? = some v → Value.okWide Tryd.prog W .any base t v := hval0
  have hW' := hW
  obtain ⟨p, q, hA0, hV, rfl, hfz, hnd⟩ := hW
  have hA : DataW.TrodAll enc Tryd.prog W 0 (fun _ => true) true Tryd.f4.params.toList args.toList ds p := hA0
  rw [Tryd.params4] at hA hval
  obtain ⟨v0, vs0, d0, ds0, p0, q0, hargs, rfl, rfl, h0, r0⟩ := trodAll_cons hA
  obtain ⟨rfl, rfl, rfl⟩ := trodAll_nil r0
  obtain rfl : args = #[v0] := by cases args; simp_all
  obtain ⟨rfl, rfl⟩ := trodVars_none hV
  have hlt := hW'.lt
  have hT := tab_of_laid hL
  clear hA0 hval0
  obtain ⟨ao, n, cap, l, rfl, hl, hok, hlen⟩ := open_in_v (en := RowV.cells) (good := RowV.good W) Tryd.underlying45 (by kernel_rfl) RowV.clen (by decide) dec_row (hval 0 45 v0 rfl rfl) h0
  refine (joins_walk ao n cap l hl hlen hok hT).mono fun e W' ⟨he, hg⟩ => ?_
  subst he
  exact ⟨_, rfl, post_law Tryd.laidOut reads rfl Tryd.underlying4 rfl ⟨rfl, rfl, rfl⟩ hW' hg⟩

theorem over : Rows.RoomJoinsSaid :=
  OpenClaim.holds_of_wide 4 Tryd.f4 rfl rfl rfl rfl rfl rfl rfl ⟨rfl, rfl, rfl, rfl, rfl⟩ rfl rfl rfl rfl rfl (by kernel_rfl) Tryd.func4 (by kernel_rfl)
    (of_decide_eq_true (by kernel_rfl)) (by unfold Func.isWrapper; first | (rw [if_pos (by decide +kernel)]; kernel_rfl) | (rw [if_neg (by decide +kernel)]; exact ⟨rfl, rfl⟩))
    (fun os started H enc _ => lifted os started H enc)

theorem proved : Rows.RoomJoinsCardSaid :=
  Claim7.holds_tied_plain_at .later [] [.data, .data] true (true, "7487dc03e1ec6d2f5a82d29aaefd0fb69e34d31aa0c73a38d2054e2446622c5e") true
    over (fun _ h => by cases h) (by kernel_rfl) (fun _ h => by cases h) roomJoins_row_tie rfl ⟨rfl, rfl⟩ (by kernel_rfl) rfl
    (fun f fn hf hfn => by
      obtain rfl : f = 4 := Option.some.inj ((show Tryd.prog.funcNamed Rows.roomJoinsRow.func = some 4 by kernel_rfl).symm.trans hf) |>.symm
      obtain rfl : fn = Tryd.f4 := (Option.some.inj (Tryd.func4.symm.trans hfn)).symm
      exact ⟨by kernel_rfl, fun j t ht => by
        rw [Tryd.params4] at ht
        have hm : t ∈ [45] := by simpa using Array.mem_of_getElem? ht
        have hall : ([45].all fun u => !Tryd.prog.wantsStandIn u) = true := by kernel_rfl
        exact (show Tryd.prog.wantsStandIn t = false by simpa using List.all_eq_true.1 hall t hm)⟩)
    (by kernel_rfl)
#print axioms proved
end Go.Proofs.YtiphdedfbafhkaaDoor.roomJoins
