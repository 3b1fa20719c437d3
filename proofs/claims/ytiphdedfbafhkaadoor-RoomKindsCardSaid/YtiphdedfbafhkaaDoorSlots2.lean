/- Contracts of Put, Get of package slots. No condition beyond each contract's own. -/
import Derived.Test.YtiphdedfbafhkaaDoorSlots
import Derived.Deep.RegionHeld3
namespace Go.Proofs.YtiphdedfbafhkaaDoor
open Go.RowKit

/-- The slot of an index. -/
def slotOf (k : Nat) (seq : Int) : Nat := (seq % 2 ^ k).toNat

theorem slotOf_lt (k : Nat) (seq : Int) (hk : k < 21) : slotOf k seq < 2 ^ k ∧ ((slotOf k seq : Nat) : Int) = seq % 2 ^ k := by
  have hb := two_pow_bd k hk
  have h1 : 0 ≤ seq % 2 ^ k := Int.emod_nonneg _ (by omega)
  have h2 : seq % 2 ^ k < 2 ^ k := Int.emod_lt_of_pos _ (by omega)
  have h3 : ((2 ^ k : Nat) : Int) = 2 ^ k := two_pow_cast k
  unfold slotOf
  omega

theorem index_j (k : Nat) (hk : k < 21) (seq : Int) (j : Nat) (hj : (j : Int) = seq % 2 ^ k) (w : World) : Calls Tryd.prog 99 #[.agg #[.int .i64 k], .int .i64 seq] w (fun e w' => e = .returned (.int .i64 j) ∧ Below w.heap.size w w') :=
  (index_k k hk seq w).mono fun _ _ ⟨he, hw⟩ => ⟨by rw [he, hj], by subst hw; exact (((Below.refl _ _).alloc (Nat.le_refl _) _).alloc (by simp) _).alloc (by simp; omega) _⟩

/-- A callee that turns nothing old, met in a region: what S says of old memory alone stays. -/
theorem withB {P : Program} {f : FuncId} {args : Array Value} {w wb : World} {v : Value} (h : Calls P f args w fun e w' => e = .returned v ∧ Below w.heap.size w w') (hb : Below wb.heap.size wb w) :
    Calls P f args w fun e w' => e = .returned v ∧ Below wb.heap.size wb w' :=
  h.mono fun _ _ ⟨he, hl⟩ => ⟨he, hb.trans (hl.mono hb.size)⟩

theorem ring_put {c : Nat → Nat} {k : Nat} {w : World} {p sh : Nat} {l : List Ev} {g cap : Nat} (hsh : sh < 21) (hl : l.length = 2 ^ sh) (hb : Blk c k w p [.int .i64 sh, .slice (some ⟨g, 0, none⟩) l.length cap] 151) (hr : Row c k w 212 2 (some ⟨g, 0, none⟩) l.length cap (l.flatMap Ev.cells))
    {w2 : World} (hB : Below w.heap.size w w2) {j : Nat} (hj : j < l.length) (x : Ev) :
    ∃ c', Stp (· = k) c c' w ((w2.setCell ⟨g, j * 2, none⟩ (.int .i64 x.key)).setCell ⟨g, j * 2 + 1, none⟩ (.int .i64 x.val)) ∧ RingAt c' k ((w2.setCell ⟨g, j * 2, none⟩ (.int .i64 x.key)).setCell ⟨g, j * 2 + 1, none⟩ (.int .i64 x.val)) p sh (l.set j x) := by
  have st := Stp.ofBelow (c := c) hB 0
  have hb2 := hb.stp st id
  have hr2 := hr.stp st id
  obtain ⟨y, hy⟩ : ∃ y, l[j]? = some y := ⟨_, List.getElem?_eq_getElem hj⟩
  have hne : g ≠ p := hr2.ne_blk hb2 (by decide) ⟨g, 0, none⟩ rfl
  have hg : paint c w.heap.size 0 g = k := hr2.2.2.2.2.1
  have r1 := hr2.setField Ev.len (y := ⟨x.key, y.val⟩) hy (f := 0) (v := .int .i64 x.key) (by decide) rfl
  have r2 := r1.setField Ev.len (j := j) (x := ⟨x.key, y.val⟩) (y := x) (by simp [hj]) (f := 1) (v := .int .i64 x.val) (by decide) rfl
  simp only [Nat.zero_add, Nat.add_zero, List.set_set] at r2
  refine ⟨_, ((st.mono (fun _ h => h.elim)).setCell (p := ⟨g, j * 2, none⟩) _ hg).setCell (p := ⟨g, j * 2 + 1, none⟩) _ hg, hsh, by rw [List.length_set]; exact hl, g, cap, ?_, ?_⟩
  · rw [List.length_set]
    exact (hb2.other (p := ⟨g, j * 2, none⟩) _ hne).other (p := ⟨g, j * 2 + 1, none⟩) _ hne
  · rw [List.length_set]
    exact r2

end Go.Proofs.YtiphdedfbafhkaaDoor
