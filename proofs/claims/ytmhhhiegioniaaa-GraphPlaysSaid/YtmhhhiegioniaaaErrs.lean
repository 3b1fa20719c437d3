/- Contracts of errors.Is and of the law helper norialaw01.Is, where the target is an api.Errno and the error is one, or a fault around one. No condition beyond each contract's own. -/
import Derived.Test.YtmhhhiegioniaaaErrFacts
namespace Go.Proofs.Ytmhhhiegioniaaa
open Go.RowKit Go.Extern.Stop Go.Stop Go.Extern

/-- errors.Is of a number. -/
theorem is_num (n m : Int) (w : World) :
    Calls Try.prog 110 #[.iface 152 (.int .i64 n), .iface 152 (.int .i64 m)] w fun e w' => e = .returned (.bool (n == m)) ∧ w = w' := by
  obtain ⟨i, hi, hcmp⟩ := Option.map_eq_some_iff.1 Try.isComp
  have tT := Try.isTypeOf
  have cT := Try.isComparable
  have mR := Try.isMethodComparable
  have nE := Try.noIsE
  have uE := Try.noUnwrapE
  have vE := Try.noUnwrapsE
  have heq := eql_iface_int (P := Try.prog) w n m Try.underlying25 Try.underlying152 hi hcmp
  by_cases hnm : n = m
  · have e1 : (n == m) = true := by simpa using hnm
    rw [e1] at heq ⊢
    clear e1 hnm
    go_enter Try.func110, Try.ntmps110
    go_wp2
    refine wp_loop_rounds 1 ?_
    rw [rounds_succ]
    go_wp2
    go_ret
    exact ⟨rfl, rfl⟩
  · have e1 : (n == m) = false := by simpa using hnm
    rw [e1] at heq ⊢
    clear e1 hnm
    go_enter Try.func110, Try.ntmps110
    go_wp2
    refine wp_loop_rounds 1 ?_
    rw [rounds_succ]
    go_wp2
    go_ret
    exact ⟨rfl, rfl⟩

/-- errors.Is of a fault around a number. -/
theorem is_fault (b : Nat) (n m : Int) (w : World) (h : w.cell? ⟨b, 2, none⟩ = some (.iface 152 (.int .i64 n))) :
    Calls Try.prog 110 #[.iface 179 (.pointer (some ⟨b, 0, none⟩)), .iface 152 (.int .i64 m)] w fun e w' => e = .returned (.bool (n == m)) ∧ w = w' := by
  obtain ⟨i, hi, hcmp⟩ := Option.map_eq_some_iff.1 Try.isComp
  have tT := Try.isTypeOf
  have cT := Try.isComparable
  have mR := Try.isMethodComparable
  have nE := Try.noIsE
  have uE := Try.noUnwrapE
  have vE := Try.noUnwrapsE
  have nF := Try.noIsF
  have uF := Try.hasUnwrapF
  have mU := Try.methodUnwrap
  have heq := eql_iface_int (P := Try.prog) w n m Try.underlying25 Try.underlying152 hi hcmp
  have hty := run_eql_iface_types (P := Try.prog) 179 152 (.pointer (some ⟨b, 0, none⟩)) (.int .i64 m) Try.underlying25 (by decide) w
  by_cases hnm : n = m
  · have e1 : (n == m) = true := by simpa using hnm
    rw [e1] at heq ⊢
    clear e1 hnm
    go_enter Try.func110, Try.ntmps110
    go_wp2
    refine wp_loop_rounds 2 ?_
    rw [rounds_succ]
    go_wp2
    rw [rounds_succ]
    go_wp2
    go_ret
    exact ⟨rfl, rfl⟩
  · have e1 : (n == m) = false := by simpa using hnm
    rw [e1] at heq ⊢
    clear e1 hnm
    go_enter Try.func110, Try.ntmps110
    go_wp2
    refine wp_loop_rounds 2 ?_
    rw [rounds_succ]
    go_wp2
    rw [rounds_succ]
    go_wp2
    go_ret
    exact ⟨rfl, rfl⟩
end Go.Proofs.Ytmhhhiegioniaaa
