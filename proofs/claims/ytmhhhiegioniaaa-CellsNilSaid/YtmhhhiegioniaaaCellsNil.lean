/- The walk of the law CellsNil: it returns true for all cell numbers and numbers and turns nothing that was there. No condition. -/
import Derived.Test.YtmhhhiegioniaaaCells3
import Derived.Test.YtmhhhiegioniaaaSwaps
namespace Go.Proofs.Ytmhhhiegioniaaa
open Go.RowKit

set_option maxHeartbeats 400000 in
theorem cnil_walk (id v : Int) (w : World) :
    Calls Try.prog 7 #[.int .i64 id, .int .i64 v] w fun e w' => e = .returned (.bool true) ∧ Below w.heap.size w w' := by
  have fin : ∀ c' (w' : World), Stp (· = 2) (fun _ => 0) c' w w' → Below w.heap.size w w' := fun c' w' s => s.below (Nat.le_refl _) (by simp)
  have Fin := Lib.hid fin
  clear fin
  go_enter Try.func7, Try.ntmps7
  go_wp2_with (first
    | (go_at_call 20; refine (alloc_nil _ _).mono ?_; rintro e w' ⟨rfl, rfl⟩)
    | (go_at_call 22; refine (load_nil _ _).mono ?_; rintro e w' ⟨rfl, rfl⟩)
    | (go_at_call 21; refine (swap_nil _ _ _ _).mono ?_; rintro e w' ⟨rfl, rfl⟩)
    | (go_at_call 48; refine (add_nil _ _ _).mono ?_; rintro e w' ⟨rfl, rfl⟩)
    | (go_at_call 47; refine (store_nil _ _ _).mono ?_; rintro e w' ⟨rfl, rfl⟩)
    | (go_at_call 44; refine (len_nil _).mono ?_; rintro e w' ⟨rfl, rfl⟩)
    | (go_at_call 45; refine (steps_nil _).mono ?_; rintro e w' ⟨rfl, rfl⟩)
    | (go_at_call 46; refine (clone_nil _).mono ?_; rintro e w' ⟨rfl, rfl⟩)
    | (go_at_call 49; refine (is_self 2 (by decide) _).mono ?_; rintro e w' ⟨rfl, rfl⟩)
    | (go_at_call 23; refine (awake3 (fun _ => 0) 2 _).mono ?_; rintro e w1 ⟨rfl, c1, s1⟩))
  go_ret
  exact ⟨rfl, Fin.out c1 _ s1⟩
end Go.Proofs.Ytmhhhiegioniaaa
