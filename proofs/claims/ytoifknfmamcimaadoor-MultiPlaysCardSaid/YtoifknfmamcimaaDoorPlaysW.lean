/- MultiPlays at every input. No condition but that the table of math/bits holds what the program lays there. -/
import Derived.Test.YtoifknfmamcimaaDoorPlays
namespace Go.Proofs.YtoifknfmamcimaaDoor
open Go.RowKit

theorem dec_po {H : Type} {enc : TypeId × Value → H} {w : World} {base : Nat} {spare : Nat → Bool} {held : Bool} (n : Nat) (cs : List Value) (y : DataW H × List MemPlace) (h : DataW.trod enc Tryd.prog w base spare held n 101 cs = some y) : ∃ x : PO, cs = x.cells ∧ x.ok := by
  obtain ⟨hl, n', hf⟩ := dec_fields Tryd.underlying101 (by kernel_rfl) (by kernel_rfl) h
  obtain ⟨v0, z0, c0, t0⟩ := hf 0 _ rfl
  obtain ⟨v1, z1, c1, t1⟩ := hf 1 _ rfl
  obtain ⟨v2, z2, c2, t2⟩ := hf 2 _ rfl
  obtain ⟨v3, z3, c3, t3⟩ := hf 3 _ rfl
  obtain ⟨x0, e0, _, w0⟩ := DataW.trod_int Tryd.underlying3 t0
  obtain ⟨x1, e1, _, w1⟩ := DataW.trod_int Tryd.underlying3 t1
  obtain ⟨x2, e2, _, w2⟩ := DataW.trod_int Tryd.underlying2 t2
  obtain ⟨x3, e3, _, w3⟩ := DataW.trod_int Tryd.underlying2 t3
  match cs, hl with
  | [a, b, d, e], _ =>
    simp at c0 c1 c2 c3 e0 e1 e2 e3
    subst c0 c1 c2 c3 e0 e1 e2 e3
    exact ⟨⟨x0, x1, x2, x3⟩, rfl, bounds_i64 w1⟩

set_option maxRecDepth 100000 in
theorem plays_walk (s : Int) (oo : Option Addr) (m ocap : Nat) (ops : List PO) (lo : Int) (w : World) (hs : 0 ≤ s ∧ s ≤ 255)
    (ho : In (fun _ => 0) 0 w 4 oo m ocap (ops.flatMap PO.cells)) (hol : ops.length = m) (hok : ∀ x ∈ ops, x.ok) (ht : Tab w) :
    Calls Tryd.prog 12 #[.int .u8 s, .slice oo m ocap, .int .i64 lo] w fun e w' => e = .returned (.bool true) ∧ Below w.heap.size w w' := by
  by_cases hm : m ≤ 80 ∧ lo ≤ 1099511627776
  · obtain ⟨u, rfl⟩ := Int.eq_ofNat_of_zero_le hs.1
    exact plays_in u (u % 7) _ oo m ocap ops lo w rfl rfl hm.1 hm.2 ho hol hok ht
  · have HT := Lib.hid (show Tab w ∧ (fun _ : Nat => 0) 1 = 0 from ⟨ht, rfl⟩)
    have hc : decide ((80 : Int) < (m : Int)) = true ∨ (decide ((80 : Int) < (m : Int)) = false ∧ decide ((1099511627776 : Int) < lo) = true) := by
      by_cases h : m ≤ 80
      · exact .inr ⟨by simp; omega, by simp; omega⟩
      · exact .inl (by simp; omega)
    clear hs ho hol hok ht hm
    rcases hc with k1 | ⟨k1, k2⟩
    all_goals
      go_enter Tryd.func12, Tryd.ntmps12
      go_wp2_with fail
      refine (awake10k 10 (by decide) (fun _ => 0) _ HT.out.1 rfl).mono ?_
      rintro e w9 ⟨rfl, c9, s9⟩
      have S9 := Lib.hid (Stp.mono s9 (J' := (2 ≤ ·)) (fun k h => by omega))
      clear s9
      go_wp2
      go_ret
      exact ⟨rfl, S9.out.fin⟩
end Go.Proofs.YtoifknfmamcimaaDoor
