/- Contracts of errors.Is and of the law helper norialaw01.Is, where the target is an api.Errno and the error is one, or a fault around one. No condition beyond each contract's own. -/
import Derived.Test.YtiphdedfbafhkaaGreatDoorErrFacts
namespace Go.Proofs.YtiphdedfbafhkaaGreatDoor
open Go.RowKit Go.Extern.Stop Go.Stop Go.Extern

/-- errors.Is of a number. -/
theorem is_num (n m : Int) (w : World) :
    Calls Tryz.prog 66 #[.iface 98 (.int .i64 n), .iface 98 (.int .i64 m)] w fun e w' => e = .returned (.bool (n == m)) ∧ w = w' := by
  obtain ⟨i, hi, hcmp⟩ := Option.map_eq_some_iff.1 Tryz.isComp
  have tT := Tryz.isTypeOf
  have cT := Tryz.isComparable
  have mR := Tryz.isMethodComparable
  have nE := Tryz.noIsE
  have uE := Tryz.noUnwrapE
  have vE := Tryz.noUnwrapsE
  have heq := eql_iface_int (P := Tryz.prog) w n m Tryz.underlying24 Tryz.underlying98 hi hcmp
  by_cases hnm : n = m
  · have e1 : (n == m) = true := by simpa using hnm
    rw [e1] at heq ⊢
    clear e1 hnm
    go_enter Tryz.func66, Tryz.ntmps66
    go_wp2
    refine wp_loop_rounds 1 ?_
    rw [rounds_succ]
    go_wp2
    go_ret
    exact ⟨rfl, rfl⟩
  · have e1 : (n == m) = false := by simpa using hnm
    rw [e1] at heq ⊢
    clear e1 hnm
    go_enter Tryz.func66, Tryz.ntmps66
    go_wp2
    refine wp_loop_rounds 1 ?_
    rw [rounds_succ]
    go_wp2
    go_ret
    exact ⟨rfl, rfl⟩

/-- errors.Is of a fault around a number. -/
theorem is_fault (b : Nat) (n m : Int) (w : World) (h : w.cell? ⟨b, 2, none⟩ = some (.iface 98 (.int .i64 n))) :
    Calls Tryz.prog 66 #[.iface 179 (.pointer (some ⟨b, 0, none⟩)), .iface 98 (.int .i64 m)] w fun e w' => e = .returned (.bool (n == m)) ∧ w = w' := by
  obtain ⟨i, hi, hcmp⟩ := Option.map_eq_some_iff.1 Tryz.isComp
  have tT := Tryz.isTypeOf
  have cT := Tryz.isComparable
  have mR := Tryz.isMethodComparable
  have nE := Tryz.noIsE
  have uE := Tryz.noUnwrapE
  have vE := Tryz.noUnwrapsE
  have nF := Tryz.noIsF
  have uF := Tryz.hasUnwrapF
  have mU := Tryz.methodUnwrap
  have heq := eql_iface_int (P := Tryz.prog) w n m Tryz.underlying24 Tryz.underlying98 hi hcmp
  have hty := run_eql_iface_types (P := Tryz.prog) 179 98 (.pointer (some ⟨b, 0, none⟩)) (.int .i64 m) Tryz.underlying24 (by decide) w
  by_cases hnm : n = m
  · have e1 : (n == m) = true := by simpa using hnm
    rw [e1] at heq ⊢
    clear e1 hnm
    go_enter Tryz.func66, Tryz.ntmps66
    go_wp2
    refine wp_loop_rounds 2 ?_
    rw [rounds_succ]
    go_wp2
    rw [rounds_succ]
    go_wp2
    go_ret
    exact ⟨rfl, rfl⟩
  · have e1 : (n == m) = false := by simpa using hnm
    rw [e1] at heq ⊢
    clear e1 hnm
    go_enter Tryz.func66, Tryz.ntmps66
    go_wp2
    refine wp_loop_rounds 2 ?_
    rw [rounds_succ]
    go_wp2
    rw [rounds_succ]
    go_wp2
    go_ret
    exact ⟨rfl, rfl⟩
end Go.Proofs.YtiphdedfbafhkaaGreatDoor
