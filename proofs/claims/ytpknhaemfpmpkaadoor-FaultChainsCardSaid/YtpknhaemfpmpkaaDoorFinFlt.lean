/- What a law over the listed tables and errors.errorType owes: their cells out of the row's condition, a start that meets it. No condition beyond the lemmas' own. -/
import Derived.Test.YtpknhaemfpmpkaaDoorFin
import Derived.Test.YtpknhaemfpmpkaaDoorFlt6
import Derived.Test.YtpknhaemfpmpkaaDoorMem4
import Derived.Test.YtpknhaemfpmpkaaDoorCards
import Derived.Test.YtpknhaemfpmpkaaDoorTie
import Derived.LaidMore
import Derived.LaidHandle
import Derived.ChangeMaps5
import Derived.Lib.LaidTab
import Derived.Lib.ItoaNum
import Derived.MakeChecks
import Derived.Stop.Joined
import Derived.SevenTiedAt
namespace Go.Proofs.YtpknhaemfpmpkaaDoor
open Go.ChangeShapes Go.WideShapes Go.ChangeAt Go.RowKit

def bitsLaid : List (String × DataW Unit) := [("math/bits.deBruijn32tab", Rows.laid_math_bits_deBruijn32tab), ("math/bits.deBruijn64tab", Rows.laid_math_bits_deBruijn64tab), ("internal/strconv.uint64pow10", Rows.laid_internal_strconv_uint64pow10), ("errors.errorType", Rows.laid_errors_errorType)]

theorem g10 : Tryd.prog.globalNamed "internal/strconv.uint64pow10" = some 1 := by kernel_rfl
theorem ty10 : (Tryd.prog.globals[1]?).map (·.type) = some 95 := by kernel_rfl
theorem c20 : Tryd.prog.cellsOf 95 = 20 := by kernel_rfl
theorem c1u : Tryd.prog.cellsOf 88 = 1 := by kernel_rfl
theorem tab10 : (Rows.laid_internal_strconv_uint64pow10 : DataW Unit) = Lib.tabData .u64 Lib.pow10Tab := by kernel_rfl
theorem gET : Tryd.prog.globalNamed "errors.errorType" = some 0 := by kernel_rfl
theorem cutET : (Tryd.prog.cutTypes.find? (·.1 == "internal/reflectlite.rtype")).map (·.2) = some 70 := by kernel_rfl
theorem oneET : ((List.range 132).filter fun t => Tryd.prog.rowNamed t [101, 114, 114, 111, 114]) = [26] := by kernel_rfl
theorem sizeET : Tryd.prog.types.size = 132 := by kernel_rfl

theorem door_met (os : Os) (args : Array Value) : laidMetH Tryd.prog bitsLaid ((World.doorLaid Tryd.prog 400 os).forCall (fun _ _ => 0) ⟨#[], args, []⟩).memory :=
  laidMetH_of_parts3 (fuel := 8) (laidMet_of_run' 8 (by kernel_rfl) (by kernel_rfl)) (by kernel_rfl) (by kernel_rfl)

theorem tab_of_laid {W : World} (h : laidMetH Tryd.prog bitsLaid W) : ET W ∧ Lib.TabIs Tryd.prog W "internal/strconv.uint64pow10" .u64 Lib.pow10Tab := by
  have h' : laidMet Tryd.prog [("math/bits.deBruijn32tab", Rows.laid_math_bits_deBruijn32tab), ("math/bits.deBruijn64tab", Rows.laid_math_bits_deBruijn64tab), ("internal/strconv.uint64pow10", Rows.laid_internal_strconv_uint64pow10)] W ∧ handlesMet Tryd.prog [("errors.errorType", Rows.laid_errors_errorType)] W := h
  obtain ⟨h1, h2⟩ := h'
  constructor
  · obtain ⟨name, u, ty, e1, e2, e3, e4, e5⟩ := h2 _ (List.mem_singleton.2 rfl)
    have en : name = [101, 114, 114, 111, 114] := (Option.some.inj e1).symm
    subst en
    obtain rfl := Option.some.inj (cutET.symm.trans e2)
    have hm : ty ∈ (List.range 132).filter fun t => Tryd.prog.rowNamed t [101, 114, 114, 111, 114] := List.mem_filter.2 ⟨List.mem_range.2 (by rw [← sizeET]; exact e3), e4⟩
    rw [oneET] at hm
    obtain rfl := List.mem_singleton.1 hm
    have hh : typeHandle Tryd.prog 26 = .pointer (some ⟨4, 26, none⟩) := by kernel_rfl
    rw [hh] at e5
    unfold ET
    simpa using World.var?_cell gET e5 0
  · obtain ⟨ps, ⟨g0, t0, cs0, f0, p0, q0, hg0, ht0, hv0, hd0, ⟨g1, t1, cs1, f1, p1, q1, hg1, ht1, hv1, hd1, ⟨g2, t2, cs2, f2, p2, q2, hg2, ht2, hv2, hd2, _, _⟩, _⟩, _⟩, _, _⟩ := h1
    obtain rfl := Option.some.inj (g10.symm.trans hg2)
    obtain rfl := Option.some.inj (ty10.symm.trans ht2)
    rw [tab10] at hd2
    unfold Lib.TabIs
    rw [hv2, ← Lib.cells_of_tab Tryd.underlying95 Tryd.underlying88 c1u c20 hd2]

theorem dec_lk {H : Type} {enc : TypeId × Value → H} {w : World} {base : Nat} {spare : Nat → Bool} {held : Bool} (n : Nat) (cs : List Value) (y : DataW H × List MemPlace) (h : DataW.trod enc Tryd.prog w base spare held n 43 cs = some y) :
    ∃ x : ByteArray × Int, cs = lk x ∧ -9223372036854775808 ≤ x.2 ∧ x.2 ≤ 9223372036854775807 := by
  obtain ⟨hl, n', hf⟩ := dec_fields Tryd.underlying43 (by kernel_rfl) (by kernel_rfl) h
  obtain ⟨v0, z0, c0, t0⟩ := hf 0 _ rfl
  obtain ⟨v1, z1, c1, t1⟩ := hf 1 _ rfl
  obtain ⟨x0, e0, _, _⟩ := DataW.trod_string Tryd.underlying9 t0
  obtain ⟨x1, e1, _, w1⟩ := DataW.trod_int Tryd.underlying2 t1
  match cs, hl with
  | [a, b], _ =>
    simp at c0 c1 e0 e1
    subst c0 c1 e0 e1
    exact ⟨(x0, x1), rfl, (bounds_i64 w1).1, (bounds_i64 w1).2⟩
end Go.Proofs.YtpknhaemfpmpkaaDoor
