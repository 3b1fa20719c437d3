/- Contracts of the actor table's Clear, Halt, Token, Len, Legal: for every table that is such. No condition beyond each contract's own. -/
import Derived.Test.YtiphdedfbafhkaaDoorActor2
namespace Go.Proofs.YtiphdedfbafhkaaDoor
open Go.RowKit

theorem atoken_in {c : Nat → Nat} {k : Nat} {w : World} {p : Nat} {l : List One} (h : TableAt c k w p l) (j : Nat) {x : One} (hj : l[j]? = some x) :
    Calls Tryd.prog 33 #[.pointer (some ⟨p, 0, none⟩), .int .i64 j] w fun e w' => e = .returned (.bool x.token) ∧ w = w' := by
  obtain ⟨g, off, cap, hb, hr, _, c1, _, _, _, _, hne, hlt⟩ := h.open_one hj
  have b0 := hb.cell 0
  simp at b0
  have h0 : decide (0 ≤ (j : Int)) = true := by simp
  have h1 : decide ((j : Int) < (l.length : Int)) = true := by simp; omega
  clear hb hr h hj
  go_enter Tryd.func33, Tryd.ntmps33
  go_wp2
  go_ret
  exact ⟨rfl, rfl⟩

theorem alen_any {c : Nat → Nat} {k : Nat} {w : World} {p : Nat} {l : List One} (h : TableAt c k w p l) :
    Calls Tryd.prog 21 #[.pointer (some ⟨p, 0, none⟩)] w fun e w' => e = .returned (.int .i64 l.length) ∧ w = w' := by
  obtain ⟨ao, cap, hb, hr⟩ := h
  have b0 := hb.cell 0
  simp at b0
  clear hb hr
  go_enter Tryd.func21, Tryd.ntmps21
  go_wp2
  go_ret
  exact ⟨rfl, rfl⟩

/-- The place that any number picks among some. -/
def pickAt (p : Int) (n : Nat) : Nat := (p % n).toNat

theorem tmod_pick (q : Int) (n : Nat) (hn : 0 < n) : pickAt q n < n ∧ ((q.tmod n = (pickAt q n : Nat)) ∨ q.tmod n = (pickAt q n : Nat) - n) := by
  have h0 : 0 ≤ q % (n : Int) := Int.emod_nonneg _ (by omega)
  have h1 : q % (n : Int) < n := Int.emod_lt_of_pos _ (by omega)
  have h2 : ((pickAt q n : Nat) : Int) = q % n := by unfold pickAt; omega
  refine ⟨by omega, ?_⟩
  rw [h2, Int.tmod_eq_emod]
  split
  · exact .inl (by omega)
  · exact .inr (by simp)

end Go.Proofs.YtiphdedfbafhkaaDoor
