/- The contract of the graph's Reach; and steps that touch nothing that was there. No condition beyond each contract's own. -/
import Derived.Test.YtmhhhiegioniaaaGraphLaw
namespace Go.Proofs.Ytmhhhiegioniaaa
open Go.RowKit

/-! ### Steps that touch nothing that was there -/

theorem Stp.pure {J : Nat → Prop} {c1 c' : Nat → Nat} {w w' : World} (st : Stp J c1 c' w w') (hJ : ∀ i, ¬ J (c1 i)) (c : Nat → Nat) (kr : Nat) : Stp (fun _ => False) c (paint c w.heap.size kr) w w' :=
  ⟨st.os, st.tape, st.output, st.size, fun _ hi => paint_lt hi, fun i hi _ => st.block i hi (hJ i)⟩

theorem Row.fresh {J : Nat → Prop} {c1 c' : Nat → Nat} {kx : Nat} {w w' : World} {e : TypeId} {size : Nat} {ao : Option Addr} {n cap : Nat} {xs : List Value} (hr : Row c' kx w' e size ao n cap xs) (st : Stp J c1 c' w w') (hx : ∀ i, c1 i ≠ kx) (c : Nat → Nat) (kr : Nat) :
    Row (paint c w.heap.size kr) kr w' e size ao n cap xs := by
  obtain ⟨h1, h2, h3, h4⟩ := hr
  refine ⟨h1, h2, h3, ?_⟩
  cases ao with
  | none => exact h4
  | some a =>
    obtain ⟨hs, hc, cur, hb, hl, hxs⟩ := h4
    refine ⟨hs, paint_ge ?_, cur, hb, hl, hxs⟩
    by_cases hlt : a.block < w.heap.size
    · exact absurd ((st.col _ hlt).symm.trans hc) (hx _)
    · omega

/-- The same colours, but for those that are none of the graph's. -/
def recol (c : Nat → Nat) (k : Nat) : Nat → Nat := fun i => if k ≤ c i ∧ c i < k + 70 then c i else k + 100

theorem recol_eq {c : Nat → Nat} {k i j : Nat} (h : c i = j) (hk : GJ k j) : recol c k i = j := by
  obtain ⟨h1, h2⟩ := hk
  rw [recol, if_pos ⟨by omega, by omega⟩, h]

theorem recol_ne (c : Nat → Nat) (k : Nat) (j : Nat) (hj : k + 70 ≤ j ∧ j < k + 100) (i : Nat) : recol c k i ≠ j := by
  unfold recol
  split <;> omega

theorem Blk.recol {c : Nat → Nat} {k j : Nat} {w : World} {b : Nat} {cs : List Value} {t : TypeId} (h : Blk c j w b cs t) (hk : GJ k j) : Blk (recol c k) j w b cs t := ⟨recol_eq h.1 hk, h.2⟩

theorem Row.recol {c : Nat → Nat} {k j : Nat} {w : World} {e : TypeId} {size : Nat} {ao : Option Addr} {n cap : Nat} {xs : List Value} (h : Row c j w e size ao n cap xs) (hk : GJ k j) : Row (recol c k) j w e size ao n cap xs := by
  obtain ⟨h1, h2, h3, h4⟩ := h
  refine ⟨h1, h2, h3, ?_⟩
  cases ao with
  | none => exact h4
  | some a =>
    obtain ⟨hs, hc, h5⟩ := h4
    exact ⟨hs, recol_eq hc hk, h5⟩

theorem GraphIs.recol {c : Nat → Nat} {k : Nat} {w : World} {p : Nat} {A : List (List Nat)} {G : List Bool} {vs : List Value} {n : Nat} {ao : Option Addr} {cap : Nat} {bo : Option Addr} {bcap : Nat} (h : GraphIs c k w p A G vs n ao cap bo bcap) : GraphIs (recol c k) k w p A G vs n ao cap bo bcap :=
  ⟨h.hb.recol ⟨by omega, by omega⟩, h.ha.recol ⟨by omega, by omega⟩, h.hg.recol ⟨by omega, by omega⟩, fun i hi => by
    obtain ⟨oi, ni, ci, h1, h2⟩ := h.hv i hi
    exact ⟨oi, ni, ci, h1, h2.recol ⟨by omega, by have := h.le; omega⟩⟩, h.la, h.lg, h.le⟩

theorem GraphAt.recol {c : Nat → Nat} {k : Nat} {w : World} {p : Nat} {A : List (List Nat)} {G : List Bool} (h : GraphAt c k w p A G) : GraphAt (recol c k) k w p A G := by
  obtain ⟨vs, n, ao, cap, bo, bcap, h⟩ := h
  exact ⟨vs, n, ao, cap, bo, bcap, h.recol⟩

/-- What hands back a new list of numbers, and touches nothing that was there. -/
def NewInts (c : Nat → Nat) (kr : Nat) (w : World) (l : List Nat) (e : Ending) (w' : World) : Prop :=
  ∃ ao cap, e = .returned (.slice ao l.length cap) ∧ ∃ c', Stp (fun _ => False) c c' w w' ∧ Row c' kr w' 3 1 ao l.length cap ((ints l).map (Value.int .i64))

theorem grbehind_p {c : Nat → Nat} {k : Nat} {w : World} {p : Nat} {A : List (List Nat)} {G : List Bool} (h : GraphAt c k w p A G) (x : Nat) (hx : hasB G x = true) (kr : Nat) :
    Calls Try.prog 98 #[.pointer (some ⟨p, 0, none⟩), .int .i64 x] w (NewInts c kr w (behindL A x)) := by
  refine (grbehind_any h.recol x hx (k + 70) (by unfold GJ; omega)).mono ?_
  rintro e w' ⟨ao, cap, rfl, c', st, hr⟩
  exact ⟨ao, cap, rfl, _, st.pure (fun i => recol_ne c k _ ⟨by omega, by omega⟩ i) c kr, hr.fresh st (recol_ne c k _ ⟨by omega, by omega⟩) c kr⟩

theorem grends_p {c : Nat → Nat} {k : Nat} {w : World} {p : Nat} {A : List (List Nat)} {G : List Bool} (h : GraphAt c k w p A G) (kr : Nat) :
    Calls Try.prog 100 #[.pointer (some ⟨p, 0, none⟩)] w (NewInts c kr w ((List.range A.length).filter (endB A G))) := by
  refine (grends_any h.recol (k + 70) (k + 71) (by unfold GJ; omega) (by unfold GJ; omega) (by omega)).mono ?_
  rintro e w' ⟨ao, cap, rfl, c', st, hr⟩
  exact ⟨ao, cap, rfl, _, st.pure (fun i hi => by rcases hi with hi | hi <;> exact recol_ne c k _ ⟨by omega, by omega⟩ i hi) c kr, hr.fresh st (recol_ne c k _ ⟨by omega, by omega⟩) c kr⟩

/-! ### Reach -/

/-- Sixty-four bits. -/
def bits (S : Nat → Bool) : List Value := (List.range 64).map (fun i => Value.bool (S i))
theorem bits_get {S : Nat → Bool} {i : Nat} (h : i < 64) : (bits S)[i]? = some (.bool (S i)) := by simp [bits, h]
def upd (S : Nat → Bool) (x : Nat) : Nat → Bool := fun i => if i = x then true else S i
theorem bits_set (S : Nat → Bool) (x : Nat) : (bits S).set x (.bool true) = bits (upd S x) := by
  apply List.ext_getElem?
  intro i
  rw [List.getElem?_set]
  by_cases h : x = i
  · subst h
    by_cases hx : x < 64
    · rw [if_pos rfl, if_pos (by simp [bits, hx]), bits_get hx]; simp [upd]
    · rw [if_pos rfl, if_neg (by simp [bits]; omega), List.getElem?_eq_none (by simp [bits]; omega)]
  · rw [if_neg h]
    by_cases hi : i < 64
    · rw [bits_get hi, bits_get hi, upd, if_neg (fun e => h e.symm)]
    · rw [List.getElem?_eq_none (by simp [bits]; omega), List.getElem?_eq_none (by simp [bits]; omega)]

def cntF (S : Nat → Bool) : Nat → Nat
  | 0 => 0
  | n + 1 => cntF S n + (if S n = true then 0 else 1)

theorem cntF_congr {S R : Nat → Bool} : ∀ (n : Nat), (∀ i, i < n → S i = R i) → cntF S n = cntF R n
  | 0, _ => rfl
  | n + 1, h => by rw [cntF, cntF, cntF_congr n fun i hi => h i (by omega), h n (by omega)]

theorem cntF_upd {S : Nat → Bool} {x : Nat} (hx : S x = false) : ∀ (n : Nat), x < n → cntF S n = cntF (upd S x) n + 1
  | 0, h => absurd h (Nat.not_lt_zero _)
  | n + 1, h => by
    rw [cntF, cntF]
    by_cases hn : x = n
    · subst hn
      rw [cntF_congr (S := upd S x) (R := S) x fun i hi => by rw [upd, if_neg (by omega)], if_neg (by rw [hx]; decide), if_pos (by simp [upd])]
    · rw [cntF_upd hx n (by omega), show upd S x n = S n by rw [upd, if_neg (by omega)]]
      omega

theorem cntF_le (S : Nat → Bool) : ∀ n, cntF S n ≤ n
  | 0 => Nat.le_refl _
  | n + 1 => by
    have := cntF_le S n
    rw [cntF]
    split <;> omega

/-- How many of the bits in a block are not set. -/
def cntW (w : World) (b : Nat) : Nat := cntF (fun i => match w.cell? ⟨b, i, none⟩ with | some (.bool x) => x | _ => false) 64

theorem cntW_eq {c : Nat → Nat} {k : Nat} {w : World} {b : Nat} {S : Nat → Bool} {t : TypeId} (h : Blk c k w b (bits S) t) : cntW w b = cntF S 64 := cntF_congr 64 fun i hi => by rw [h.cell, bits_get hi]

theorem getD_val (l : List Nat) (i : Nat) (h : i < l.length) : ((ints l).map (Value.int .i64))[i]? = some (.int .i64 (l.getD i 0 : Nat)) := by simp [ints, List.getD, h]

structure RRel (c : Nat → Nat) (k kt ks : Nat) (w : World) (p : Nat) (A : List (List Nat)) (G : List Bool) (vs : List Value) (n : Nat) (ao : Option Addr) (cap : Nat) (bo : Option Addr) (bcap : Nat) (x sb : Nat) (T : List Nat) (S : Nat → Bool) (oo : Option Addr) (N oc : Nat) (c' : Nat → Nat) (wr : World) : Prop where
  len : N = T.length
  row : Row c' kt wr 3 1 oo N oc ((ints T).map (Value.int .i64))
  seen : Blk c' ks wr sb (bits S) 177
  gr : GraphIs c' k wr p A G vs n ao cap bo bcap
  st : Stp (fun j => j = kt ∨ j = ks) c c' w wr
  s1 : ∀ y ∈ T, Reaches A x y
  s2 : ∀ y, S y = true → Reaches A x y
  c1 : ∀ y ∈ A.getD x [], S y = true ∨ y ∈ T
  c2 : ∀ z y, S z = true → y ∈ A.getD z [] → S y = true ∨ y ∈ T
  room : N + 64 * cntF S 64 ≤ 4160

theorem RRel.done {c : Nat → Nat} {k kt ks : Nat} {w : World} {p : Nat} {A : List (List Nat)} {G : List Bool} {vs : List Value} {n : Nat} {ao : Option Addr} {cap : Nat} {bo : Option Addr} {bcap x sb : Nat} {T : List Nat} {S : Nat → Bool} {oo : Option Addr} {oc : Nat} {c' : Nat → Nat} {wr : World}
    (h : RRel c k kt ks w p A G vs n ao cap bo bcap x sb T S oo 0 oc c' wr) : S = reachB A x := by
  have hT : T = [] := List.eq_nil_of_length_eq_zero h.len.symm
  funext y
  by_cases hy : Reaches A x y
  · rw [reachB_iff.2 hy]
    exact reach_closed (fun y hy => by simpa [hT] using h.c1 y hy) (fun z y hz hy => by simpa [hT] using h.c2 z y hz hy) hy
  · rw [show reachB A x y = false by rw [Bool.eq_false_iff]; exact fun e => hy (reachB_iff.1 e)]
    rw [Bool.eq_false_iff]
    exact fun e => hy (h.s2 y e)
end Go.Proofs.Ytmhhhiegioniaaa
