/- Contracts of errors.Is and of the law helper norialaw01.Is, where the target is an api.Errno and the error is one, or a fault around one. No condition beyond each contract's own. -/
import Derived.Test.YtiphdedfbafhkaaDoorErrFacts
namespace Go.Proofs.YtiphdedfbafhkaaDoor
open Go.RowKit Go.Extern.Stop Go.Stop Go.Extern

/-- errors.Is of a number. -/
theorem is_num (n m : Int) (w : World) :
    Calls Tryd.prog 44 #[.iface 82 (.int .i64 n), .iface 82 (.int .i64 m)] w fun e w' => e = .returned (.bool (n == m)) ∧ w = w' := by
  obtain ⟨i, hi, hcmp⟩ := Option.map_eq_some_iff.1 Tryd.isComp
  have tT := Tryd.isTypeOf
  have cT := Tryd.isComparable
  have mR := Tryd.isMethodComparable
  have nE := Tryd.noIsE
  have uE := Tryd.noUnwrapE
  have vE := Tryd.noUnwrapsE
  have heq := eql_iface_int (P := Tryd.prog) w n m Tryd.underlying27 Tryd.underlying82 hi hcmp
  by_cases hnm : n = m
  · have e1 : (n == m) = true := by simpa using hnm
    rw [e1] at heq ⊢
    clear e1 hnm
    go_enter Tryd.func44, Tryd.ntmps44
    go_wp2
    refine wp_loop_rounds 1 ?_
    rw [rounds_succ]
    go_wp2
    go_ret
    exact ⟨rfl, rfl⟩
  · have e1 : (n == m) = false := by simpa using hnm
    rw [e1] at heq ⊢
    clear e1 hnm
    go_enter Tryd.func44, Tryd.ntmps44
    go_wp2
    refine wp_loop_rounds 1 ?_
    rw [rounds_succ]
    go_wp2
    go_ret
    exact ⟨rfl, rfl⟩

/-- errors.Is of a fault around a number. -/
theorem is_fault (b : Nat) (n m : Int) (w : World) (h : w.cell? ⟨b, 2, none⟩ = some (.iface 82 (.int .i64 n))) :
    Calls Tryd.prog 44 #[.iface 123 (.pointer (some ⟨b, 0, none⟩)), .iface 82 (.int .i64 m)] w fun e w' => e = .returned (.bool (n == m)) ∧ w = w' := by
  obtain ⟨i, hi, hcmp⟩ := Option.map_eq_some_iff.1 Tryd.isComp
  have tT := Tryd.isTypeOf
  have cT := Tryd.isComparable
  have mR := Tryd.isMethodComparable
  have nE := Tryd.noIsE
  have uE := Tryd.noUnwrapE
  have vE := Tryd.noUnwrapsE
  have nF := Tryd.noIsF
  have uF := Tryd.hasUnwrapF
  have mU := Tryd.methodUnwrap
  have heq := eql_iface_int (P := Tryd.prog) w n m Tryd.underlying27 Tryd.underlying82 hi hcmp
  have hty := run_eql_iface_types (P := Tryd.prog) 123 82 (.pointer (some ⟨b, 0, none⟩)) (.int .i64 m) Tryd.underlying27 (by decide) w
  by_cases hnm : n = m
  · have e1 : (n == m) = true := by simpa using hnm
    rw [e1] at heq ⊢
    clear e1 hnm
    go_enter Tryd.func44, Tryd.ntmps44
    go_wp2
    refine wp_loop_rounds 2 ?_
    rw [rounds_succ]
    go_wp2
    rw [rounds_succ]
    go_wp2
    go_ret
    exact ⟨rfl, rfl⟩
  · have e1 : (n == m) = false := by simpa using hnm
    rw [e1] at heq ⊢
    clear e1 hnm
    go_enter Tryd.func44, Tryd.ntmps44
    go_wp2
    refine wp_loop_rounds 2 ?_
    rw [rounds_succ]
    go_wp2
    rw [rounds_succ]
    go_wp2
    go_ret
    exact ⟨rfl, rfl⟩
end Go.Proofs.YtiphdedfbafhkaaDoor
