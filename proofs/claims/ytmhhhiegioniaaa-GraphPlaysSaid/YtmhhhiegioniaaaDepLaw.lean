/- The document's depths: how the table rises to them. No condition beyond each law's own. -/
import Derived.Test.YtmhhhiegioniaaaGraph12
namespace Go.Proofs.Ytmhhhiegioniaaa
open Go.RowKit

theorem depF_mono (A : List (List Nat)) : ∀ (i y : Nat), depF A i y ≤ depF A (i + 1) y
  | 0, _ => Nat.zero_le _
  | i + 1, y => by
    rw [depF]
    exact depS_le.2 fun k hk => Nat.le_trans (Nat.succ_le_succ (depF_mono A i k)) (depS_ge hk)

/-- A table of depths, part of the way: so many whole rounds, and all below x of the next one. -/
structure DInv (A : List (List Nat)) (i x : Nat) (D : Nat → Nat) : Prop where
  le : ∀ y, D y ≤ depN A y
  ge : ∀ y, y < A.length → depF A i y ≤ D y
  nx : ∀ y, y < x → depF A (i + 1) y ≤ D y

theorem DInv.start (A : List (List Nat)) : DInv A 0 0 (fun _ => 0) := ⟨fun _ => Nat.zero_le _, fun _ _ => Nat.le_refl _, fun _ h => absurd h (Nat.not_lt_zero _)⟩

theorem DInv.step {A : List (List Nat)} {G : List Bool} (gd : Good A G) {i x q : Nat} {D : Nat → Nat} (h : DInv A i x D) (hq : q < (A.getD x []).length) (hn : ∀ z ∈ (A.getD x []).take q, depF A i z + 1 ≤ D x) :
    DInv A i x (updN D x (max (D x) (D (A.getD x [])[q] + 1))) ∧ ∀ z ∈ (A.getD x []).take (q + 1), depF A i z + 1 ≤ updN D x (max (D x) (D (A.getD x [])[q] + 1)) x := by
  obtain ⟨z, hz⟩ : ∃ z, z = (A.getD x [])[q] := ⟨_, rfl⟩
  have hm : z ∈ A.getD x [] := by rw [hz]; exact List.getElem_mem hq
  rw [← hz]
  have up : ∀ y, D y ≤ updN D x (max (D x) (D z + 1)) y := fun y => by
    unfold updN
    split
    · next e => subst e; omega
    · omega
  refine ⟨⟨fun y => ?_, fun y hy => Nat.le_trans (h.ge y hy) (up y), fun y hy => Nat.le_trans (h.nx y hy) (up y)⟩, fun y hy => ?_⟩
  · unfold updN
    split
    · next e =>
      have h1 := h.le x
      have h2 := h.le z
      have h3 : depN A z + 1 ≤ depN A x := by rw [gd.dep x]; exact depS_ge hm
      rw [e]
      omega
    · exact h.le y
  · rw [List.take_succ_eq_append_getElem hq, ← hz] at hy
    rcases List.mem_append.1 hy with hy | hy
    · exact Nat.le_trans (hn y hy) (up x)
    · have e : y = z := by simpa using hy
      subst e
      have := h.ge y (gd.lt hm)
      unfold updN
      rw [if_pos rfl]
      omega

theorem DInv.node {A : List (List Nat)} {i x : Nat} {D : Nat → Nat} (h : DInv A i x D) (hn : ∀ z ∈ A.getD x [], depF A i z + 1 ≤ D x) : DInv A i (x + 1) D :=
  ⟨h.le, h.ge, fun y hy => by
    by_cases e : y = x
    · rw [e, depF]; exact depS_le.2 hn
    · exact h.nx y (by omega)⟩

theorem DInv.round {A : List (List Nat)} {i : Nat} {D : Nat → Nat} (h : DInv A i A.length D) : DInv A (i + 1) 0 D := ⟨h.le, h.nx, fun _ h => absurd h (Nat.not_lt_zero _)⟩

theorem DInv.done {S : GS} (gd : GoodS S) {D : Nat → Nat} (h : DInv S.1 S.1.length 0 D) (y : Nat) (hy : y < S.1.length) : D y = depI S (y : Nat) := by
  have h1 := h.le y
  have h2 := h.ge y hy
  unfold depI
  cases hh : hasB S.2 y with
  | false => rw [Good.dep_none gd hh] at h1; simp; omega
  | true =>
    obtain ⟨p, -, p2, p3⟩ := Good.pos gd
    have := p2 y hh
    have e : depF S.1 S.1.length y = depN S.1 y := depF_stable p3 _ _ _ this (by omega)
    rw [if_pos rfl, Int.toNat_natCast]
    omega
end Go.Proofs.Ytmhhhiegioniaaa
