/- The walk of the law CellsSwaps: it returns true for all v, x, y and turns nothing that was there. No condition. -/
import Derived.Test.YtmhhhiegioniaaaCells2
namespace Go.Proofs.Ytmhhhiegioniaaa
open Go.RowKit

theorem awake3 (c : Nat → Nat) (k : Nat) (w : World) :
    Calls Try.prog 23 #[] w fun e w' => e = .returned (.bool true) ∧ ∃ c', Stp (· = k) c c' w w' := by
  go_enter Try.func23, Try.ntmps23
  go_wp2_with fail
  refine (new_any c k _).mono ?_
  rintro e w1 ⟨rfl, c1, s1, h1⟩
  go_wp2_with fail
  refine (alloc_ok h1 _ (by simp)).mono ?_
  rintro e w2 ⟨rfl, c2, s2, h2⟩
  go_wp2_with fail
  refine (swap_yes h2 0 _ _ (by simp) (by simp) (by omega) (by omega)).mono ?_
  rintro e w3 ⟨rfl, c3, s3, h3⟩
  go_wp2_with fail
  refine (load_ok h3 0 (by simp) (by omega) (by omega)).mono ?_
  rintro e w4 ⟨rfl, c4, s4, h4⟩
  go_wp2_with fail
  go_ret
  exact ⟨rfl, c4, ((s1.trans s2).trans s3).trans s4⟩

set_option maxHeartbeats 400000 in
theorem swaps_walk (v x y : Int) (w : World) :
    Calls Try.prog 3 #[.int .i64 v, .int .i64 x, .int .i64 y] w fun e w' => e = .returned (.bool true) ∧ Below w.heap.size w w' := by
  have fin : ∀ c' (w' : World), Stp (· = 2) (fun _ => 0) c' w w' → Below w.heap.size w w' := fun c' w' s => s.below (Nat.le_refl _) (by simp)
  have Fin := Lib.hid fin
  clear fin
  by_cases hx : x = v
  · subst hx
    go_enter Try.func3, Try.ntmps3
    go_wp2_with fail
    refine (new_any (fun _ => 0) 2 _).mono ?_
    rintro e w1 ⟨rfl, c1, s1, h1⟩
    go_wp2_with fail
    refine (alloc_ok h1 _ (by simp)).mono ?_
    rintro e w2 ⟨rfl, c2, s2, h2⟩
    go_wp2_with fail
    refine (swap_yes h2 0 _ _ (by simp) (by simp) (by omega) (by omega)).mono ?_
    rintro e w3 ⟨rfl, c3, s3, h3⟩
    go_wp2_with fail
    refine (swap_yes h3 0 _ _ (by simp) (by simp) (by omega) (by omega)).mono ?_
    rintro e w4 ⟨rfl, c4, s4, h4⟩
    go_wp2_with fail
    refine (load_ok h4 0 (by simp) (by omega) (by omega)).mono ?_
    rintro e w5 ⟨rfl, c5, s5, h5⟩
    go_wp2_with fail
    refine (awake3 c5 2 _).mono ?_
    rintro e w6 ⟨rfl, c6, s6⟩
    go_wp2_with fail
    go_ret
    exact ⟨by simp, Fin.out c6 _ (((((s1.trans s2).trans s3).trans s4).trans s5).trans s6)⟩
  · go_enter Try.func3, Try.ntmps3
    go_wp2_with fail
    refine (new_any (fun _ => 0) 2 _).mono ?_
    rintro e w1 ⟨rfl, c1, s1, h1⟩
    go_wp2_with fail
    refine (alloc_ok h1 _ (by simp)).mono ?_
    rintro e w2 ⟨rfl, c2, s2, h2⟩
    go_wp2_with fail
    refine (swap_yes h2 0 _ _ (by simp) (by simp) (by omega) (by omega)).mono ?_
    rintro e w3 ⟨rfl, c3, s3, h3⟩
    go_wp2_with fail
    refine (swap_no h3 0 _ _ (by simp) (by simpa using hx) (by omega) (by omega)).mono ?_
    rintro e w4 ⟨rfl, c4, s4, h4⟩
    go_wp2_with fail
    refine (load_ok h4 0 (by simp) (by omega) (by omega)).mono ?_
    rintro e w5 ⟨rfl, c5, s5, h5⟩
    go_wp2_with fail
    refine (awake3 c5 2 _).mono ?_
    rintro e w6 ⟨rfl, c6, s6⟩
    go_wp2_with fail
    go_ret
    exact ⟨by simp, Fin.out c6 _ (((((s1.trans s2).trans s3).trans s4).trans s5).trans s6)⟩
end Go.Proofs.Ytmhhhiegioniaaa
