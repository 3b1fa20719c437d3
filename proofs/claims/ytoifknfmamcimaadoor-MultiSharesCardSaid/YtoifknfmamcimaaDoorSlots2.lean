/- Contracts of Put, Get of package slots. No condition beyond each contract's own. -/
import Derived.Test.YtoifknfmamcimaaDoorSlots
import Derived.Deep.RegionHeld3
namespace Go.Proofs.YtoifknfmamcimaaDoor
open Go.RowKit

/-- The slot of an index. -/
def slotOf (k : Nat) (seq : Int) : Nat := (seq % 2 ^ k).toNat

theorem slotOf_lt (k : Nat) (seq : Int) (hk : k < 21) : slotOf k seq < 2 ^ k ∧ ((slotOf k seq : Nat) : Int) = seq % 2 ^ k := by
  have hb := two_pow_bd k hk
  have h1 : 0 ≤ seq % 2 ^ k := Int.emod_nonneg _ (by omega)
  have h2 : seq % 2 ^ k < 2 ^ k := Int.emod_lt_of_pos _ (by omega)
  have h3 : ((2 ^ k : Nat) : Int) = 2 ^ k := two_pow_cast k
  unfold slotOf
  omega

theorem index_j (k : Nat) (hk : k < 21) (seq : Int) (j : Nat) (hj : (j : Int) = seq % 2 ^ k) (w : World) : Calls Tryd.prog 91 #[.agg #[.int .i64 k], .int .i64 seq] w (fun e w' => e = .returned (.int .i64 j) ∧ Below w.heap.size w w') :=
  (index_k k hk seq w).mono fun _ _ ⟨he, hw⟩ => ⟨by rw [he, hj], by subst hw; exact (((Below.refl _ _).alloc (Nat.le_refl _) _).alloc (by simp) _).alloc (by simp; omega) _⟩

/-- A callee that turns nothing old, met in a region: what S says of old memory alone stays. -/
theorem withB {P : Program} {f : FuncId} {args : Array Value} {w wb : World} {v : Value} (h : Calls P f args w fun e w' => e = .returned v ∧ Below w.heap.size w w') (hb : Below wb.heap.size wb w) :
    Calls P f args w fun e w' => e = .returned v ∧ Below wb.heap.size wb w' :=
  h.mono fun _ _ ⟨he, hl⟩ => ⟨he, hb.trans (hl.mono hb.size)⟩

end Go.Proofs.YtoifknfmamcimaaDoor
