/- What a law over the listed tables owes: the tables' cells out of the row's condition, a start that meets it, and the tied card's builder at one function. No condition beyond the lemmas' own. -/
import Derived.Test.YtiphdedfbafhkaaGreatDoorFin
import Derived.Test.YtiphdedfbafhkaaGreatDoorPow
import Derived.Test.YtiphdedfbafhkaaGreatDoorCards
import Derived.Test.YtiphdedfbafhkaaGreatDoorTie
import Derived.LaidMore
import Derived.Lib.LaidTab
import Derived.MakeChecks
import Derived.Stop.Joined
import Derived.SevenTiedAt
namespace Go.Proofs.YtiphdedfbafhkaaGreatDoor
open Go.ChangeShapes Go.WideShapes Go.ChangeAt Go.RowKit

def bitsLaid : List (String × DataW Unit) := [("math/bits.deBruijn32tab", Rows.laid_math_bits_deBruijn32tab), ("math/bits.deBruijn64tab", Rows.laid_math_bits_deBruijn64tab)]

theorem g32 : Tryz.prog.globalNamed "math/bits.deBruijn32tab" = some 0 := by kernel_rfl
theorem g64 : Tryz.prog.globalNamed "math/bits.deBruijn64tab" = some 1 := by kernel_rfl
theorem ty32 : (Tryz.prog.globals[0]?).map (·.type) = some 253 := by kernel_rfl
theorem ty64 : (Tryz.prog.globals[1]?).map (·.type) = some 254 := by kernel_rfl
theorem c64 : Tryz.prog.cellsOf 254 = 64 := by kernel_rfl
theorem c8 : Tryz.prog.cellsOf 5 = 1 := by kernel_rfl
theorem tab64 : (Rows.laid_math_bits_deBruijn64tab : DataW Unit) = Lib.tabData .u8 deb64 := by kernel_rfl

theorem door_met (os : Os) (args : Array Value) : laidMetH Tryz.prog bitsLaid ((World.doorLaid Tryz.prog 400 os).forCall (fun _ _ => 0) ⟨#[], args, []⟩).memory :=
  laidMetH_of_parts3 (fuel := 8) (laidMet_of_run' 8 (by kernel_rfl) (by kernel_rfl)) (by kernel_rfl) (by kernel_rfl)

theorem tab_of_laid {W : World} (h : laidMetH Tryz.prog bitsLaid W) : Tab W := by
  rw [MakeChecks.laidMetH_plain _ _ _ (by kernel_rfl)] at h
  obtain ⟨ps, ⟨g0, t0, cs0, f0, p0, q0, hg0, ht0, hv0, hd0, ⟨g1, t1, cs1, f1, p1, q1, hg1, ht1, hv1, hd1, _, _⟩, _⟩, _, _⟩ := h
  obtain rfl := Option.some.inj (g64.symm.trans hg1)
  obtain rfl := Option.some.inj (ty64.symm.trans ht1)
  intro i hi
  rw [tab64] at hd1
  have hcs := Lib.cells_of_tab Tryz.underlying254 Tryz.underlying5 c8 c64 hd1
  have := World.var?_cell hg1 hv1 i
  rw [this]
  have hl : deb64.length = 64 := by decide
  rw [← Array.getElem?_toList, hcs, List.getElem?_map, List.getElem?_eq_getElem (by omega)]
  simp [List.getD, List.getElem?_eq_getElem (show i < deb64.length by omega)]
end Go.Proofs.YtiphdedfbafhkaaGreatDoor
