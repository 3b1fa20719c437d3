/- Contracts of a barrier's probe: Probe, Done, Available, settle. No condition beyond each contract's own. -/
import Derived.Test.YtiphdedfbafhkaaGreatDoorBarLaw
import Derived.Test.YtiphdedfbafhkaaGreatDoorGate3
import Derived.Test.YtiphdedfbafhkaaGreatDoorAvailRef
namespace Go.Proofs.YtiphdedfbafhkaaGreatDoor
open Go.RowKit

theorem scdone_s (c : Nat → Nat) (ao : Option Addr) (n cap : Nat) (m : Int) (w : World) {b : Bool} (hb : ((n : Int) == 0) = b) :
    Calls Tryz.prog 119 #[.agg #[.slice ao n cap, .int .i64 m]] w fun e w' => e = .returned (.bool b) ∧ ∃ c', Stp (fun _ => False) c c' w w' := by
  refine (scdone ao n cap m w).mono ?_
  rintro e w' ⟨rfl, rfl⟩
  exact ⟨by rw [hb], _, (Stp.refl _ c w).alloc _ 0⟩
theorem scleast_s (c : Nat → Nat) (ao : Option Addr) (n cap : Nat) (m : Int) (w : World) :
    Calls Tryz.prog 122 #[.agg #[.slice ao n cap, .int .i64 m]] w fun e w' => e = .returned (.int .i64 m) ∧ ∃ c', Stp (fun _ => False) c c' w w' := by
  refine (scleast ao n cap m w).mono ?_
  rintro e w' ⟨rfl, rfl⟩
  exact ⟨rfl, _, (Stp.refl _ c w).alloc _ 0⟩
end Go.Proofs.YtiphdedfbafhkaaGreatDoor
