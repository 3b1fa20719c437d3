/- A law's claims that share, in plain Lean: no index is claimed twice, none is left out, one is full only if it was short. No condition beyond each law's own. -/
import Derived.Test.YtoifknfmamcimaaDoorTPb
import Derived.Deep.RegionHeld3
import Derived.Great.BuildSlice
import Derived.Deep.CutBlock
import Derived.Deep.RegionWith
import Derived.Deep.RegionLaw
import Derived.Deep.MidRow
namespace Go.Proofs.YtoifknfmamcimaaDoor
open Go.RowKit

/-- A claim, and whether less room than it wants was left at one of its steps. -/
structure ST where
  u : TT
  b : Bool
/-- What it has claimed. -/
def ST.share (x : ST) : Int := if x.u.t.stage = 5 then x.u.t.n else 0
def shares : List ST → Int
  | [] => 0
  | x :: l => x.share + shares l
theorem shares_append : ∀ (T : List ST) (y : ST), shares (T ++ [y]) = shares T + y.share
  | [], y => by simp [shares]
  | x :: l, y => by simp only [List.cons_append, shares, shares_append l y]; omega
theorem shares_set : ∀ (T : List ST) (i : Nat) (x y : ST), T[i]? = some x → shares (T.set i y) = shares T - x.share + y.share
  | [], _, _, _, h => by cases h
  | z :: l, 0, x, y, h => by
    cases h
    simp only [List.set_cons_zero, shares]
    omega
  | z :: l, i + 1, x, y, h => by
    simp only [List.set_cons_succ, shares, shares_set l i x y (by simpa using h)]
    omega

/-- What is so of a claim. -/
structure XOK (sh N k : Nat) (la : List Int) (x : ST) : Prop where
  t : TOK sh N k la x.u
  x2 : x.u.t.stage = 2 → x.u.t.most < x.u.t.hi - 2 ^ sh → x.b = true
  x3 : x.u.t.stage = 3 → x.u.t.hi - 2 ^ sh ≤ x.u.t.most
  x4 : x.u.t.stage = 4 → ∀ i, i < k → x.u.t.hi - 2 ^ sh ≤ (la.drop N).getD i 0
  x5 : x.u.t.stage = 5 → -1 ≤ x.u.t.claimed ∧ x.u.t.hi = x.u.t.claimed + x.u.t.n ∧ x.u.t.hi ≤ la.getD 0 0
  x6 : x.u.t.stage = 6 → x.b = true

/-- How much room is left. -/
def leftOf (sh N : Nat) (la : List Int) : Int := roomOf (2 ^ sh) (la.getD 0 0) ((la.drop N).foldl min (la.getD 0 0))
/-- Was it short at this step, or before? -/
def ST.short (sh N : Nat) (la : List Int) (x : ST) : Bool := x.b || (!decide ((5 : Int) ≤ (x.u.t.stage : Int)) && decide (leftOf sh N la < x.u.t.n))
/-- A step of it. -/
def stepX (sh N k : Nat) (la : List Int) (x : ST) (ao : Option Addr) (cap : Nat) : ST := ⟨stepU sh N k la x.u ao cap, x.short sh N la⟩

section
variable {sh N k : Nat} {la : List Int} {x : ST}
theorem left_low (hP : POK sh N la k []) {i : Nat} (hi : i < k) {n cl : Int} (hcl : cl ≤ la.getD 0 0) (h : (la.drop N).getD i 0 < cl + n - 2 ^ sh) (hn : 1 ≤ n) : leftOf sh N la < n := by
  have hmem : (la.drop N).getD i 0 ∈ la.drop N := by
    have hl : i < (la.drop N).length := by rw [hP.dl]; exact hi
    rw [List.getD, List.getElem?_eq_getElem hl]
    exact List.getElem_mem hl
  have h2 := (fold_top (la.drop N) (la.getD 0 0)).2 _ hmem
  unfold leftOf roomOf
  split
  · omega
  · split <;> omega

theorem short_mono (h : x.b = true) : x.short sh N la = true := by simp [ST.short, h]
theorem short_now (h5 : x.u.t.stage < 5) (h : leftOf sh N la < x.u.t.n) : x.short sh N la = true := by
  have : decide ((5 : Int) ≤ (x.u.t.stage : Int)) = false := by simp; omega
  simp [ST.short, this, h]

/-- What a step of it keeps, what it says. -/
theorem XOK.step (hP : POK sh N la k []) (h : XOK sh N k la x) (hb : la.getD 0 0 + x.u.t.n ≤ 4611686018427387904) (ao : Option Addr) (cap : Nat) :
    XOK sh N k (stepT ⟨sh, 0, 1, 2, gids N k⟩ la x.u.t).1 (stepX sh N k la x ao cap) ∧ (stepT ⟨sh, 0, 1, 2, gids N k⟩ la x.u.t).2.2 = 0 ∧
      (((stepT ⟨sh, 0, 1, 2, gids N k⟩ la x.u.t).1.getD 0 0 = la.getD 0 0 ∧ ((stepX sh N k la x ao cap).u.t.stage = 5 → (stepX sh N k la x ao cap).u.t = x.u.t) ∧ (x.u.t.stage = 5 → (stepX sh N k la x ao cap).u.t = x.u.t)) ∨
        (x.u.t.stage ≠ 5 ∧ (stepX sh N k la x ao cap).u.t.stage = 5 ∧ (stepX sh N k la x ao cap).u.t.claimed = la.getD 0 0 ∧ (stepX sh N k la x ao cap).u.t.n = x.u.t.n ∧ (stepX sh N k la x ao cap).u.t.hi = la.getD 0 0 + x.u.t.n ∧
          (stepT ⟨sh, 0, 1, 2, gids N k⟩ la x.u.t).1.getD 0 0 = la.getD 0 0 + x.u.t.n ∧ ∀ i, i < k → la.getD 0 0 + x.u.t.n - 2 ^ sh ≤ (la.drop N).getD i 0)) := by
  have hT := TOK.step hP h.t ao cap
  have hcu := hP.cu
  have hlen := hP.len
  have h3 := hP.n3
  have hpw := hP.pw
  obtain ⟨⟨⟨n, stage, claimed, hi, ids, most⟩, ao0, cap0, a, o⟩, b⟩ := x
  have hn := h.t.n
  have hcl := h.t.cl
  have hs2 := h.t.s2
  have hs3 := h.t.s3
  have hst := h.t.ok.st
  have x2 := h.x2
  have x3 := h.x3
  have x4 := h.x4
  have x5 := h.x5
  have x6 := h.x6
  obtain ⟨bb, hbb⟩ : ∃ z, ST.short sh N la ⟨⟨⟨n, stage, claimed, hi, ids, most⟩, ao0, cap0, a, o⟩, b⟩ = z := ⟨_, rfl⟩
  have hmono : b = true → bb = true := fun e => by rw [← hbb]; exact short_mono e
  have hnow : stage < 5 → leftOf sh N la < n → bb = true := fun e1 e2 => by rw [← hbb]; exact short_now e1 e2
  simp only at hb hn hcl hs2 hs3 hst x2 x3 x4 x5 x6
  unfold stepX
  rw [hbb]
  clear hbb
  unfold stepU at hT ⊢
  simp only at hT ⊢
  rcases (show 5 ≤ stage ∨ stage = 0 ∨ stage = 1 ∨ stage = 2 ∨ stage = 3 ∨ stage = 4 by omega) with h5 | rfl | rfl | rfl | rfl | rfl
  · have e : stepT ⟨sh, 0, 1, 2, gids N k⟩ la ⟨n, stage, claimed, hi, ids, most⟩ = (la, ⟨n, stage, claimed, hi, ids, most⟩, 0) := by rw [stepT, if_pos h5]
    rw [e] at hT ⊢
    exact ⟨⟨hT.2.1, fun c => by simp only at c; omega, fun c => by simp only at c; omega, fun c => by simp only at c; omega, x5, fun c => hmono (x6 c)⟩, rfl, .inl ⟨rfl, fun _ => rfl, fun _ => rfl⟩⟩
  · have he : nextErr (la.getD 0 0) n = 0 := by
      unfold nextErr
      rw [if_neg (by omega), if_neg (by omega), if_neg (by omega)]
    have e : stepT ⟨sh, 0, 1, 2, gids N k⟩ la ⟨n, 0, claimed, hi, ids, most⟩ = (la, ⟨n, 1, la.getD 0 0, la.getD 0 0 + n, ids, most⟩, 0) := by
      rw [stepT, if_neg (by simp), if_pos rfl, if_neg (fun h => h he)]
    rw [e] at hT ⊢
    exact ⟨⟨hT.2.1, (fun c => by cases c), (fun c => by cases c), (fun c => by cases c), (fun c => by cases c), (fun c => by cases c)⟩, rfl, .inl ⟨rfl, (fun c => by cases c), (fun c => by cases c)⟩⟩
  · by_cases hen : hi - 2 ^ sh ≤ la.getD 1 0 ∧ la.getD 1 0 ≤ claimed
    · have e : stepT ⟨sh, 0, 1, 2, gids N k⟩ la ⟨n, 1, claimed, hi, ids, most⟩ = (la, ⟨n, 4, claimed, hi, ids, most⟩, 0) := by
        rw [stepT, if_neg (by simp), if_neg (by simp), if_pos rfl, if_pos hen]
      rw [e] at hT ⊢
      refine ⟨⟨hT.2.1, (fun c => by cases c), (fun c => by cases c), fun _ i hik => ?_, (fun c => by cases c), (fun c => by cases c)⟩, rfl, .inl ⟨rfl, (fun c => by cases c), (fun c => by cases c)⟩⟩
      have hl : i < (la.drop N).length := by rw [hP.dl]; exact hik
      have hg := (hP.gl ((la.drop N).getD i 0) (by rw [List.getD, List.getElem?_eq_getElem hl]; exact List.getElem_mem hl)).1
      simp only
      omega
    · have hc := hcl (by decide) (by decide)
      by_cases hk : k = 0
      · subst hk
        have hj : ¬ claimed < hi - 2 ^ sh := by omega
        have e : stepT ⟨sh, 0, 1, 2, gids N 0⟩ la ⟨n, 1, claimed, hi, ids, most⟩ = (la, ⟨n, 3, claimed, hi, [], claimed⟩, 0) := by
          rw [stepT, if_neg (by simp), if_neg (by simp), if_pos rfl, if_neg hen, if_pos (show gids N 0 = [] from rfl), judgeT]
          simp only
          rw [if_neg hj]
        rw [e] at hT ⊢
        exact ⟨⟨hT.2.1, (fun c => by cases c), fun _ => by simp only; omega, (fun c => by cases c), (fun c => by cases c), (fun c => by cases c)⟩, rfl, .inl ⟨rfl, (fun c => by cases c), (fun c => by cases c)⟩⟩
      · have hne : gids N k ≠ [] := fun h => hk (by have := gids_len N k; rw [h] at this; exact this.symm)
        have e : stepT ⟨sh, 0, 1, 2, gids N k⟩ la ⟨n, 1, claimed, hi, ids, most⟩ = (la, ⟨n, 2, claimed, hi, gids N k, claimed⟩, 0) := by
          rw [stepT, if_neg (by simp), if_neg (by simp), if_pos rfl, if_neg hen, if_neg hne]
        rw [e] at hT ⊢
        exact ⟨⟨hT.2.1, fun _ c => by simp only at c; omega, (fun c => by cases c), (fun c => by cases c), (fun c => by cases c), (fun c => by cases c)⟩, rfl, .inl ⟨rfl, (fun c => by cases c), (fun c => by cases c)⟩⟩
  · have hc := hcl (by decide) (by decide)
    obtain ⟨g1, g2, g3, g4, g5⟩ := hs2 rfl
    obtain ⟨t1, t2⟩ := gids_drop_tail (N := N) g1
    have hv : valAt la (ids.headD 0) = (la.drop N).getD a 0 := by
      rw [g3, t2, valAt, Int.toNat_natCast]
      simp [List.getD, List.getElem?_drop]
    have htl : ids.tail = (gids N o).drop (a + 1) := by rw [g3, t1]
    have hsh : min most ((la.drop N).getD a 0) < hi - 2 ^ sh → bb = true := fun hm => by
      by_cases h1 : most < hi - 2 ^ sh
      · exact hmono (x2 rfl h1)
      · exact hnow (by decide) (left_low hP (i := a) (by omega) hc.2.1 (by omega) hn.1)
    obtain ⟨y, hy⟩ : ∃ y, min most ((la.drop N).getD a 0) = y := ⟨_, rfl⟩
    rw [hy] at hsh
    by_cases hl : a + 1 = o
    · have hnil : ids.tail = [] := by rw [htl]; exact (drop_nil_iff g1).2 hl
      by_cases hj : y < hi - 2 ^ sh
      · have e : stepT ⟨sh, 0, 1, 2, gids N k⟩ la ⟨n, 2, claimed, hi, ids, most⟩ = (la, ⟨n, 6, claimed, hi, [], y⟩, 0) := by
          rw [stepT, if_neg (by simp), if_neg (by simp), if_neg (by simp), if_pos rfl, if_pos hnil, hv, hy, judgeT]; simp only; rw [if_pos hj]
        rw [e] at hT ⊢
        exact ⟨⟨hT.2.1, (fun c => by cases c), (fun c => by cases c), (fun c => by cases c), (fun c => by cases c), fun _ => hsh hj⟩, rfl, .inl ⟨rfl, (fun c => by cases c), (fun c => by cases c)⟩⟩
      · have e : stepT ⟨sh, 0, 1, 2, gids N k⟩ la ⟨n, 2, claimed, hi, ids, most⟩ = (la, ⟨n, 3, claimed, hi, [], y⟩, 0) := by
          rw [stepT, if_neg (by simp), if_neg (by simp), if_neg (by simp), if_pos rfl, if_pos hnil, hv, hy, judgeT]; simp only; rw [if_neg hj]
        rw [e] at hT ⊢
        exact ⟨⟨hT.2.1, (fun c => by cases c), fun _ => by simp only; omega, (fun c => by cases c), (fun c => by cases c), (fun c => by cases c)⟩, rfl, .inl ⟨rfl, (fun c => by cases c), (fun c => by cases c)⟩⟩
    · have hne : ids.tail ≠ [] := by rw [htl]; exact fun h => hl ((drop_nil_iff g1).1 h)
      have e : stepT ⟨sh, 0, 1, 2, gids N k⟩ la ⟨n, 2, claimed, hi, ids, most⟩ = (la, ⟨n, 2, claimed, hi, ids.tail, y⟩, 0) := by
        rw [stepT, if_neg (by simp), if_neg (by simp), if_neg (by simp), if_pos rfl, if_neg hne, hv, hy]
      rw [e] at hT ⊢
      exact ⟨⟨hT.2.1, fun _ c => hsh c, (fun c => by cases c), (fun c => by cases c), (fun c => by cases c), (fun c => by cases c)⟩, rfl, .inl ⟨rfl, (fun c => by cases c), (fun c => by cases c)⟩⟩
  · have hc := hcl (by decide) (by decide)
    obtain ⟨g1, g2⟩ := hs3 rfl
    obtain ⟨q0, q1, q2, q3⟩ := set1 (la := la) (N := N) (m := most) h3.1 (by omega)
    have e : stepT ⟨sh, 0, 1, 2, gids N k⟩ la ⟨n, 3, claimed, hi, ids, most⟩ = (la.set 1 most, ⟨n, 4, claimed, hi, ids, most⟩, 0) := by
      rw [stepT, if_neg (by simp), if_neg (by simp), if_neg (by simp), if_neg (by simp), if_pos rfl]
    rw [e] at hT ⊢
    refine ⟨⟨hT.2.1, (fun c => by cases c), (fun c => by cases c), fun _ i hik => ?_, (fun c => by cases c), (fun c => by cases c)⟩, rfl, .inl ⟨q0, (fun c => by cases c), (fun c => by cases c)⟩⟩
    have := g2 i hik
    have := x3 rfl
    simp only
    rw [q3]
    omega
  · have hc := hcl (by decide) (by decide)
    obtain ⟨q0, q1, q2, q3⟩ := set0 (la := la) (N := N) (m := hi) h3.1 (by omega)
    by_cases hq : la.getD 0 0 = claimed
    · have e : stepT ⟨sh, 0, 1, 2, gids N k⟩ la ⟨n, 4, claimed, hi, ids, most⟩ = (la.set 0 hi, ⟨n, 5, claimed, hi, ids, most⟩, 0) := by
        rw [stepT, if_neg (by simp), if_neg (by simp), if_neg (by simp), if_neg (by simp), if_neg (by simp), if_pos hq]
      rw [e] at hT ⊢
      refine ⟨⟨hT.2.1, (fun c => by cases c), (fun c => by cases c), (fun c => by cases c), fun _ => ?_, (fun c => by cases c)⟩, rfl, .inr ⟨by decide, rfl, hq.symm, rfl, by simp only; omega, by simp only; rw [q0]; omega, fun i hik => ?_⟩⟩
      · simp only
        rw [q0]
        omega
      · have := x4 rfl i hik
        omega
    · have e : stepT ⟨sh, 0, 1, 2, gids N k⟩ la ⟨n, 4, claimed, hi, ids, most⟩ = (la, ⟨n, 0, claimed, hi, ids, most⟩, 0) := by
        rw [stepT, if_neg (by simp), if_neg (by simp), if_neg (by simp), if_neg (by simp), if_neg (by simp), if_neg hq]
      rw [e] at hT ⊢
      exact ⟨⟨hT.2.1, (fun c => by cases c), (fun c => by cases c), (fun c => by cases c), (fun c => by cases c), (fun c => by cases c)⟩, rfl, .inl ⟨rfl, (fun c => by cases c), (fun c => by cases c)⟩⟩

/-- All claims, and what is so of them together. -/
structure SOK (sh N k : Nat) (la : List Int) (T : List ST) : Prop where
  p : POK sh N la k []
  e : ∀ x ∈ T, XOK sh N k la x
  w : ∀ i, i < k → la.getD 0 0 - 2 ^ sh ≤ (la.drop N).getD i 0
  d : ∀ (i j : Nat) (x y : ST), i ≠ j → T[i]? = some x → T[j]? = some y → x.u.t.stage = 5 → y.u.t.stage = 5 → x.u.t.hi ≤ y.u.t.claimed ∨ y.u.t.hi ≤ x.u.t.claimed
  s : shares T = la.getD 0 0 + 1
variable {T : List ST} {la' : List Int}
theorem shares_le (hP : ∀ x ∈ T, XOK sh N k la x) (h6 : sh < 7) : shares T ≤ 64 * T.length := by
  have h64 : (2 : Int) ^ sh ≤ 64 := by
    rcases (show sh = 0 ∨ sh = 1 ∨ sh = 2 ∨ sh = 3 ∨ sh = 4 ∨ sh = 5 ∨ sh = 6 by omega) with rfl | rfl | rfl | rfl | rfl | rfl | rfl <;> decide
  induction T with
  | nil => simp [shares]
  | cons x l ih =>
    have h1 := ih (fun y hy => hP y (List.mem_cons_of_mem _ hy))
    have h2 := (hP x (List.mem_cons_self ..)).t.n
    simp only [shares, ST.share, List.length_cons]
    split <;> omega

/-- A claim that is begun. -/
theorem SOK.new (h : SOK sh N k la T) {n : Int} (h1 : 1 ≤ n) (h2 : n ≤ 2 ^ sh) : SOK sh N k la (T ++ [⟨TT.new n, false⟩]) := by
  have h0 : (TT.new n).t.stage = 0 := rfl
  refine ⟨h.p, fun x hx => ?_, h.w, fun i j x y hij hi hj hx hy => ?_, ?_⟩
  · rcases List.mem_append.1 hx with hx | hx
    · exact h.e x hx
    · rw [List.mem_singleton] at hx
      subst hx
      exact ⟨TOK.new h1 h2, (fun c => by cases c), (fun c => by cases c), (fun c => by cases c), (fun c => by cases c), (fun c => by cases c)⟩
  · have old : ∀ (i : Nat) (x : ST), (T ++ [⟨TT.new n, false⟩])[i]? = some x → x.u.t.stage = 5 → T[i]? = some x := fun i x hi hx => by
      rcases Nat.lt_or_ge i T.length with hl | hl
      · rwa [List.getElem?_append_left hl] at hi
      · rw [List.getElem?_append_right hl] at hi
        cases hq : i - T.length with
        | zero => rw [hq] at hi; cases hi; rw [h0] at hx; cases hx
        | succ m => rw [hq] at hi; simp at hi
    exact h.d i j x y hij (old i x hi hx) (old j y hj hy) hx hy
  · rw [shares_append, h.s]
    simp [ST.share, h0]

/-- A claim's step. -/
theorem SOK.step (h : SOK sh N k la T) (h6 : sh < 7) (hl : T.length ≤ 1000) {i : Nat} (hx : T[i]? = some x) (ao : Option Addr) (cap : Nat) :
    SOK sh N k (stepT ⟨sh, 0, 1, 2, gids N k⟩ la x.u.t).1 (T.set i (stepX sh N k la x ao cap)) ∧ (stepT ⟨sh, 0, 1, 2, gids N k⟩ la x.u.t).2.2 = 0 ∧ XOK sh N k (stepT ⟨sh, 0, 1, 2, gids N k⟩ la x.u.t).1 (stepX sh N k la x ao cap) := by
  have hX := h.e x (List.mem_of_getElem? hx)
  have h64 := shares_le h.e h6
  have hs := h.s
  have hn := hX.t.n
  have hn64 : (2 : Int) ^ sh ≤ 64 := by
    rcases (show sh = 0 ∨ sh = 1 ∨ sh = 2 ∨ sh = 3 ∨ sh = 4 ∨ sh = 5 ∨ sh = 6 by omega) with rfl | rfl | rfl | rfl | rfl | rfl | rfl <;> decide
  have hT := TOK.step h.p hX.t ao cap
  obtain ⟨hx', he, hc⟩ := hX.step h.p (by omega) ao cap
  refine ⟨?_, he, hx'⟩
  have hi : i < T.length := (List.getElem?_eq_some_iff.1 hx).1
  obtain ⟨p1, p2, p3, p4, p5⟩ := hT
  obtain ⟨lb, hlb⟩ : ∃ l, l = (stepT ⟨sh, 0, 1, 2, gids N k⟩ la x.u.t).1 := ⟨_, rfl⟩
  rw [← hlb] at p1 p2 p3 p4 p5 hx' hc ⊢
  obtain ⟨x', hx2⟩ : ∃ z, z = stepX sh N k la x ao cap := ⟨_, rfl⟩
  rw [← hx2] at hx' hc ⊢
  have hall : ∀ y ∈ T.set i x', XOK sh N k lb y := fun y hy => by
    rcases List.mem_or_eq_of_mem_set hy with hy | rfl
    · have hy' := h.e y hy
      exact ⟨hy'.t.raised ⟨p3, p4, fun j _ => by rw [p5]; exact Int.le_refl _⟩, hy'.x2, hy'.x3, fun c j hj => by rw [p5]; exact hy'.x4 c j hj, fun c => by have := hy'.x5 c; omega, hy'.x6⟩
    · exact hx'
  have get : ∀ (j : Nat) (y : ST), j ≠ i → (T.set i x')[j]? = some y → T[j]? = some y := fun j y hj hy => by rwa [List.getElem?_set_ne (fun e => hj e.symm)] at hy
  have geti : ∀ y : ST, (T.set i x')[i]? = some y → y = x' := fun y hy => by rw [List.getElem?_set_self hi] at hy; cases hy; rfl
  rcases hc with ⟨c0, c1, c2⟩ | ⟨c0, c1, c2, c3, c4, c5, c6⟩
  · refine ⟨p1, hall, fun j hj => by rw [p5, c0]; exact h.w j hj, fun j l y z hjl hj hl hy hz => ?_, ?_⟩
    · by_cases e1 : j = i
      · subst e1
        have := geti y hj
        subst this
        have e2 := c1 hy
        rw [e2] at hy ⊢
        exact h.d j l x z hjl hx (get l z (fun e => hjl e.symm) hl) hy hz
      · by_cases e2 : l = i
        · subst e2
          have := geti z hl
          subst this
          have e2 := c1 hz
          rw [e2] at hz ⊢
          exact h.d j l y x hjl (get j y e1 hj) hx hy hz
        · exact h.d j l y z hjl (get j y e1 hj) (get l z e2 hl) hy hz
    · rw [shares_set T i x x' hx, h.s, c0]
      have hsh : x'.share = x.share := by
        unfold ST.share
        by_cases h5 : x.u.t.stage = 5
        · rw [c2 h5]
        · by_cases h5' : x'.u.t.stage = 5
          · rw [c1 h5'] at h5'; exact absurd h5' h5
          · rw [if_neg h5, if_neg h5']
      omega
  · have below : ∀ (j : Nat) (y : ST), T[j]? = some y → y.u.t.stage = 5 → y.u.t.hi ≤ x'.u.t.claimed := fun j y hj hy => by
      rw [c2]
      exact ((h.e y (List.mem_of_getElem? hj)).x5 hy).2.2
    refine ⟨p1, hall, fun j hj => by rw [p5, c5]; exact c6 j hj, fun j l y z hjl hj hl hy hz => ?_, ?_⟩
    · by_cases e1 : j = i
      · subst e1
        have := geti y hj
        subst this
        exact .inr (below l z (get l z (fun e => hjl e.symm) hl) hz)
      · by_cases e2 : l = i
        · subst e2
          have := geti z hl
          subst this
          exact .inl (below j y (get j y e1 hj) hy)
        · exact h.d j l y z hjl (get j y e1 hj) (get l z e2 hl) hy hz
    · rw [shares_set T i x x' hx, h.s, c5]
      have e1 : x.share = 0 := by unfold ST.share; rw [if_neg c0]
      have e2 : x'.share = x.u.t.n := by unfold ST.share; rw [if_pos c1, c3]
      omega

/-- Who holds back is raised. -/
theorem SOK.raise (h : SOK sh N k la T) (hP : POK sh N la' k []) (hr : Raised N k la la') (h0 : la'.getD 0 0 = la.getD 0 0) : SOK sh N k la' T :=
  ⟨hP, fun y hy => by
    have hy' := h.e y hy
    exact ⟨hy'.t.raised hr, hy'.x2, hy'.x3, fun c j hj => Int.le_trans (hy'.x4 c j hj) (hr.2.2 j hj), fun c => by rw [h0]; exact hy'.x5 c, hy'.x6⟩,
    fun j hj => by have := h.w j hj; have := hr.2.2 j hj; omega, h.d, by rw [h0]; exact h.s⟩
/-- One more holds back. -/
theorem SOK.more (h : SOK sh N k la T) (hk : k < 20) : SOK sh N (k + 1) (la ++ [la.getD 0 0]) T := by
  have h3 := h.p.n3
  have hlen := h.p.len
  have hd := h.p.dl
  have hpw := h.p.pw
  have e0 : (la ++ [la.getD 0 0]).getD 0 0 = la.getD 0 0 := getD_app (by omega)
  have eg : ∀ i, i < k → ((la ++ [la.getD 0 0]).drop N).getD i 0 = (la.drop N).getD i 0 := fun i hi => by
    rw [h.p.drop_more]; exact getD_app (by omega)
  have ek : ((la ++ [la.getD 0 0]).drop N).getD k 0 = la.getD 0 0 := by
    rw [h.p.drop_more]
    have := getD_app_at (l := la.drop N) (v := la.getD 0 0)
    rwa [hd] at this
  refine ⟨h.p.more hk, fun y hy => ?_, fun j hj => ?_, h.d, by rw [e0]; exact h.s⟩
  · have hy' := h.e y hy
    refine ⟨hy'.t.more h.p, hy'.x2, hy'.x3, fun c j hj => ?_, fun c => by rw [e0]; exact hy'.x5 c, hy'.x6⟩
    rcases Nat.lt_or_ge j k with hjk | hjk
    · rw [eg j hjk]; exact hy'.x4 c j hjk
    · obtain rfl : j = k := by omega
      rw [ek]
      have h1 := hy'.t.cl (by omega) (by omega)
      have h2 := hy'.t.n
      omega
  · rcases Nat.lt_or_ge j k with hjk | hjk
    · rw [eg j hjk, e0]; exact h.w j hjk
    · obtain rfl : j = k := by omega
      rw [ek, e0]
      omega
end
end Go.Proofs.YtoifknfmamcimaaDoor

/- Who holds back is raised, where the document's other numbers are of no account. No condition beyond the contract's own. -/
namespace Go.Proofs.YtoifknfmamcimaaDoor
open Go.RowKit

/-- The law's own numbers: how far it is claimed, the gate, who holds back. -/
structure MH (x9 sh : Nat) (cl : Int) (gl il : List Int) (k : Nat) (io : Option Addr) (icap : Nat) (go : Option Addr) (gcap : Nat) (c : Nat → Nat) (w : World) : Prop where
  mb : Blk c 9 w x9 [.int .i64 (2 ^ sh), .int .i64 cl, .int .i64 (-1), .slice go k gcap, .int .i64 (-1), .int .i64 0, .slice none 0 0] 67
  gr : Row c 10 w 2 1 go k gcap (gl.map (Value.int .i64))
  ir : Row c 11 w 3 1 io k icap (il.map (Value.int .i64))
section
variable {x9 sh k icap gcap : Nat} {cl : Int} {gl il : List Int} {io go : Option Addr} {c c' : Nat → Nat} {w w' : World}
theorem MH.stp {J : Nat → Prop} (h : MH x9 sh cl gl il k io icap go gcap c w) (t : Stp J c c' w w') (h9 : ¬ J 9) (h10 : ¬ J 10) (h11 : ¬ J 11) : MH x9 sh cl gl il k io icap go gcap c' w' := ⟨h.mb.stp t h9, h.gr.stp t h10, h.ir.stp t h11⟩
theorem MH.stpF (h : MH x9 sh cl gl il k io icap go gcap c w) (t : Stp (fun _ => False) c c' w w') : MH x9 sh cl gl il k io icap go gcap c' w' := h.stp t id id id
theorem MH.xs (h : MH x9 sh cl gl il k io icap go gcap c w) : (w.cell? ⟨x9, 0, none⟩ = some (.int .i64 (2 ^ sh)) ∧ w.cell? ⟨x9, 1, none⟩ = some (.int .i64 cl) ∧ w.cell? ⟨x9, 2, none⟩ = some (.int .i64 (-1)) ∧ w.cell? ⟨x9, 3, none⟩ = some (.slice go k gcap) ∧ w.cell? ⟨x9, 4, none⟩ = some (.int .i64 (-1)) ∧ w.cell? ⟨x9, 5, none⟩ = some (.int .i64 0) ∧ w.cell? ⟨x9, 6, none⟩ = some (.slice none 0 0)) ∧ (w.frozen? ⟨x9, 0, none⟩ = false ∧ w.frozen? ⟨x9, 1, none⟩ = false ∧ w.frozen? ⟨x9, 2, none⟩ = false ∧ w.frozen? ⟨x9, 3, none⟩ = false ∧ w.frozen? ⟨x9, 4, none⟩ = false ∧ w.frozen? ⟨x9, 5, none⟩ = false ∧ w.frozen? ⟨x9, 6, none⟩ = false) ∧ x9 < w.heap.size := ⟨cl_7 h.mb, (cl_f7 h.mb).1, (cl_f7 h.mb).2⟩
theorem MH.gcell (h : MH x9 sh cl gl il k io icap go gcap c w) {i : Nat} (hi : i < gl.length) : ∃ ga : Addr, go = some ga ∧ w.cell? (ga.add i) = some (.int .i64 (gl.getD i 0)) ∧ w.frozen? (ga.add i) = false ∧ (ga.add i).block < w.heap.size := by
  obtain ⟨a, h1, h2, h3, h4, h5, h6⟩ := h.gr.cell (j := i) (v := .int .i64 (gl.getD i 0)) (by simp [List.getD, hi])
  exact ⟨a, h1, h3, h4, World.block_lt_of_cell? _ _ h3⟩
theorem MH.icell (h : MH x9 sh cl gl il k io icap go gcap c w) {i : Nat} (hi : i < il.length) : ∃ ia : Addr, io = some ia ∧ w.cell? (ia.add i) = some (.int .i64 (il.getD i 0)) := by
  obtain ⟨a, h1, h2, h3, -⟩ := h.ir.cell (j := i) (v := .int .i64 (il.getD i 0)) (by simp [List.getD, hi])
  exact ⟨a, h1, h3⟩
theorem MH.put_gate {ga : Addr} (h : MH x9 sh cl gl il k io icap (some ga) gcap c w) {i : Nat} (hi : i < gl.length) (v : Int) :
    MH x9 sh cl (gl.set i v) il k io icap (some ga) gcap c (w.setCell (ga.add i) (.int .i64 v)) ∧ Stp (· = 10) c c w (w.setCell (ga.add i) (.int .i64 v)) := by
  obtain ⟨a, h1, h2, h3, h4, h5, h6⟩ := h.gr.cell (j := i) (v := .int .i64 (gl.getD i 0)) (by simp [List.getD, hi])
  cases h1
  have t : Stp (· = 10) c c w (w.setCell (ga.add i) (.int .i64 v)) := (Stp.refl (· = 10) c w).setCell (p := ga.add i) _ (by rw [h5]; exact h6)
  have hr := h.gr.set i (.int .i64 v) (by simpa using hi)
  rw [← List.map_set, ← h5] at hr
  exact ⟨⟨h.mb.stp t (by decide), hr, h.ir.stp t (by decide)⟩, t⟩
/-- How far it is claimed, stored anew. -/
theorem MH.put_cl (h : MH x9 sh cl gl il k io icap go gcap c w) (v : Int) : MH x9 sh v gl il k io icap go gcap c (w.setCell ⟨x9, 1, none⟩ (.int .i64 v)) ∧ Stp (· = 9) c c w (w.setCell ⟨x9, 1, none⟩ (.int .i64 v)) := by
  have t : Stp (· = 9) c c w (w.setCell ⟨x9, 1, none⟩ (.int .i64 v)) := (Stp.refl (· = 9) c w).setCell (p := ⟨x9, 1, none⟩) _ h.mb.1
  exact ⟨⟨h.mb.set 1 (.int .i64 v), h.gr.stp t (by decide), h.ir.stp t (by decide)⟩, t⟩
end
section
variable {N cn id x9 sh k icap gcap : Nat} {cl y : Int} {gl : List Int} {ia ga : Addr} {c : Nat → Nat} {w : World}
theorem MH.hcells (h : MH x9 sh cl gl (gids N k) k (some ia) icap (some ga) gcap c w) (hi : id < k) (hl : gl.length = k) (hcn : cn = N + id) (hy : gl.getD id 0 = y) :
    w.cell? (ia.add id) = some (.int .i64 (cn : Int)) ∧ w.cell? ⟨x9, 3, none⟩ = some (.slice (some ga) k gcap) ∧ w.cell? (ga.add id) = some (.int .i64 y) := by
  obtain ⟨a, h1, h2, -, -⟩ := h.gcell (i := id) (by rw [hl]; exact hi)
  obtain ⟨b, h3, h4⟩ := h.icell (i := id) (by rw [gids_len]; exact hi)
  cases h1
  cases h3
  rw [gids_get hi, ← hcn] at h4
  rw [hy] at h2
  exact ⟨h4, h.xs.1.2.2.2.1, h2⟩
end

section
variable {w0 : World} {p q bp gp sh N k cn id : Nat} {lb : List Int} {x9 : Nat} {cl : Int} {gl : List Int} {icap gcap : Nat} {io go : Option Addr} {ia ga : Addr} {c0 c : Nat → Nat} {wb w : World} {y : Int}
theorem raise_gateH (hM : MH x9 sh cl gl (gids N k) k (some ia) icap (some ga) gcap c w) (hR : LAt w0 p q bp gp sh lb (gids N k) c w) (hi : id < gl.length) (v : Int) :
    Hid ((LAt w0 p q bp gp sh lb (gids N k) c (w.setCell (ga.add id) (.int .i64 v)).drew ∧ MH x9 sh cl (gl.set id v) (gids N k) k (some ia) icap (some ga) gcap c (w.setCell (ga.add id) (.int .i64 v)).drew) ∧ Stp JH c c w (w.setCell (ga.add id) (.int .i64 v)).drew) := by
  obtain ⟨m, t⟩ := hM.put_gate hi v
  exact Lib.hid ⟨⟨hR.stp9 (Stp.mono t.drew (fun _ h => by omega)), m.stpF (Stp.refl (fun _ => False) _ _).drew⟩, Stp.mono t.drew (fun _ h => .inr h)⟩
theorem raise_storeH (hR : LAt w0 p q bp gp sh lb (gids N k) c w) (hM : MH x9 sh cl gl (gids N k) k (some ia) icap (some ga) gcap c w) (hS : Stp JH c0 c wb w) (hi : id < k) (hl : gl.length = k) (hcn : cn = N + id) (hlt : cn < lb.length) (hy : gl.getD id 0 = y) {W : World} (hW : Stp (fun _ => False) c c w W) :
    Calls Tryd.prog 49 #[.pointer (some ⟨q, 0, none⟩), .int .i64 cn, .int .i64 y] W fun e w' => e = .returned .nilIface ∧ ∃ c', Hid ((LAt w0 p q bp gp sh (lb.set cn y) (gids N k) c' w' ∧ MH x9 sh cl gl (gids N k) k (some ia) icap (some ga) gcap c' w') ∧ Stp JH c0 c' wb w') ∧
      (w'.cell? (ia.add id) = some (.int .i64 (cn : Int)) ∧ w'.cell? ⟨x9, 3, none⟩ = some (.slice (some ga) k gcap) ∧ w'.cell? (ga.add id) = some (.int .i64 y)) := by
  refine ((hR.stpF hW).store cn y hlt).mono ?_
  rintro e w' ⟨rfl, c', t, r⟩
  have hM' := (hM.stpF hW).stp t (by decide) (by decide) (by decide)
  exact ⟨rfl, c', Lib.hid ⟨⟨r, hM'⟩, (hS.trans (Stp.mono hW (fun _ h => h.elim))).trans (Stp.mono t (fun _ h => .inl h))⟩, hM'.hcells hi hl hcn hy⟩

set_option maxRecDepth 100000 in
set_option maxHeartbeats 4000000 in
theorem held_s (hR : LAt w0 p q bp gp sh lb (gids N k) c w) (hM : MH x9 sh (lb.getD 0 0) (lb.drop N) (gids N k) k io icap go gcap c w) (hP : POK sh N lb k []) (xn : Int) :
    Calls Tryd.prog 44 #[.pointer (some ⟨q, 0, none⟩), .pointer (some ⟨x9, 0, none⟩), .slice io k icap, .int .i64 xn] w fun e w' => e = .returned (.bool true) ∧ ∃ c' lc, Stp JH c c' w w' ∧ POK sh N lc k [] ∧ Raised N k lb lc ∧ lc.getD 0 0 = lb.getD 0 0 ∧ LAt w0 p q bp gp sh lc (gids N k) c' w' ∧
      MH x9 sh (lb.getD 0 0) (lc.drop N) (gids N k) k io icap go gcap c' w' := by
  have R6 := Lib.hid hR
  have M6 := Lib.hid hM
  have P := Lib.hid hP
  clear hR hM hP
  by_cases hk : 0 < k ∧ 0 ≤ xn
  · obtain ⟨hk0, hn0⟩ := hk
    obtain ⟨ix, hid, E1⟩ := hold_pick hn0 hk0
    obtain ⟨d7, hd7, E2⟩ := hold_seven hn0
    have HI := Lib.hid hid
    have HLT0 := Lib.hid (show N + ix < lb.length by have := P.out.len; omega)
    have HW := Lib.hid (P.out.hold_w hid hd7)
    have kz : ((k : Int) == 0) = false := by simp; omega
    have kn : decide (xn < 0) = false := by simpa using hn0
    have DL := Lib.hid P.out.dl
    obtain ⟨ga, hga, hgc, hgf, hgb⟩ := M6.out.gcell (i := ix) (by rw [DL.out]; exact hid)
    obtain ⟨ia, hia, hic⟩ := M6.out.icell (i := ix) (by rw [gids_len]; exact hid)
    subst hga hia
    obtain ⟨cn, hcn⟩ : ∃ cn, cn = N + ix := ⟨_, rfl⟩
    have CN := Lib.hid hcn
    have HLT := Lib.hid (show cn < lb.length by rw [hcn]; exact HLT0.out)
    rw [gids_get hid, ← hcn] at hic
    obtain ⟨⟨m0, m1, m2, m3, m4, m5, m6⟩, -, lm⟩ := M6.out.xs
    obtain ⟨g, hg⟩ : ∃ g, (lb.drop N).getD ix 0 = g := ⟨_, rfl⟩
    have HG := Lib.hid hg
    rw [hg] at hgc HW
    obtain ⟨z0, hz0⟩ : ∃ z, lb.getD 0 0 = z := ⟨_, rfl⟩
    have HZ := Lib.hid hz0
    rw [hz0] at m1 HW
    have v1 := HW.out.1
    have v2 : IntKind.i64.wrap (g + (d7 : Int)) = g + (d7 : Int) := (IntWalk.i64_left _).trans v1
    have hid1 : (ix : Int) < (k : Int) := by clear v1 v2; omega
    have hid0 : (0 : Int) ≤ (ix : Int) := by clear v1 v2; omega
    clear hz0 hg hcn hd7 hn0 hk0
    obtain ⟨y, hy⟩ : ∃ y : Int, (if g + (d7 : Int) < z0 then g + (d7 : Int) else z0) = y := ⟨_, rfl⟩
    have HY := Lib.hid (show g ≤ y ∧ y ≤ z0 by rw [← hy]; have := HW.out.2; clear v1 v2; split <;> omega)
    have HYE := Lib.hid hy
    clear hy
    have HL := Lib.hid (show ix < (lb.drop N).length by rw [DL.out]; exact HI.out)
    have HSL := Lib.hid (show ((lb.drop N).set ix y).length = k by rw [List.length_set]; exact DL.out)
    have HGY := Lib.hid (show ((lb.drop N).set ix y).getD ix 0 = y from getD_set HL.out)
    have HB1 := Lib.hid (show (lb.drop N).getD ix 0 ≤ y by rw [HG.out]; exact HY.out.1)
    have HB2 := Lib.hid (show y ≤ lb.getD 0 0 by rw [HZ.out]; exact HY.out.2)
    go_enter Tryd.func44, Tryd.ntmps44
    go_upto_region 4 with fail
    go_region
    rw [HYE.out]
    have RM := raise_gateH M6.out R6.out HL.out y
    obtain ⟨wd, hwd⟩ : ∃ wd : World, wd = (w.setCell (ga.add ix) (.int .i64 y)).drew := ⟨_, rfl⟩
    rw [← hwd] at RM ⊢
    clear hwd hgc hgf hgb hic m0 m1 m2 m3 m4 m5 m6 lm v1 v2 E2 E1 HYE HY HG HZ HW DL
    obtain ⟨hic, m3, hgc⟩ := RM.out.1.2.hcells HI.out HSL.out CN.out HGY.out
    go_upto_region 5 with fail
    go_region_held3 (fun w' => w'.cell? (ia.add ix) = some (.int .i64 (cn : Int)) ∧ w'.cell? ⟨x9, 3, none⟩ = some (.slice (some ga) k gcap) ∧ w'.cell? (ga.add ix) = some (.int .i64 y))
      (first | exact ⟨by assumption, by assumption, by assumption⟩ | go_keep)
      (first
        | (go_at_call 49; refine (raise_storeH RM.out.1.1 RM.out.1.2 RM.out.2 HI.out HSL.out CN.out HLT.out HGY.out (by first | exact Stp.refl (fun _ => False) _ _ | exact (Stp.refl (fun _ => False) _ _).drew | exact (Stp.refl (fun _ => False) _ _).drewN _)).mono ?_; rintro e we ⟨rfl, ce, RE, hic, m3, hgc⟩))
    go_wp2
    go_ret
    obtain ⟨e0, e1, e2⟩ := P.out.hold_eq (i := ix) y
    have hlc : lb.set cn y = lb.set (N + ix) y := by rw [CN.out]
    have RR := RE.out
    rw [hlc] at RR
    exact ⟨by first | rfl | simp, ce, lb.set (N + ix) y, RR.2, P.out.hold HI.out HB1.out HB2.out, Raised.set P.out HI.out HB1.out, e0, RR.1.1, by rw [e2]; exact RR.1.2⟩
  · have hc : ((k : Int) == 0) = true ∨ (((k : Int) == 0) = false ∧ decide (xn < 0) = true) := by
      by_cases h0 : k = 0
      · exact .inl (by simp [h0])
      · exact .inr ⟨by simp; omega, by simp; omega⟩
    clear hk
    rcases hc with k1 | ⟨k1, k2⟩
    all_goals
      go_enter Tryd.func44, Tryd.ntmps44
      go_wp2
      go_ret
      exact ⟨rfl, c, lb, Stp.refl _ _ _, P.out, Raised.refl _, rfl, R6.out, M6.out⟩
end
end Go.Proofs.YtoifknfmamcimaaDoor

/- The rows of the claims that share; three appends side by side. No condition beyond each law's own. -/
namespace Go.Proofs.YtoifknfmamcimaaDoor
open Go.RowKit

def ST.lc (p : Nat) (x : ST) : List Value := x.u.lc p
theorem ST.lc_len (p : Nat) (x : ST) : (x.lc p).length = 7 := rfl
/-- The claims as the law holds them, their sizes, whether they were short. -/
structure SRows (p : Nat) (T : List ST) (lo : Option Addr) (lcap : Nat) (zo : Option Addr) (zcap : Nat) (bo : Option Addr) (bcap : Nat) (c : Nat → Nat) (w : World) : Prop where
  lr : Row c 13 w 73 7 lo T.length lcap (T.flatMap (ST.lc p))
  zr : Row c 14 w 3 1 zo T.length zcap (T.map fun x => .int .i64 x.u.t.n)
  br : Row c 16 w 4 1 bo T.length bcap (T.map fun x => .bool x.b)
  is : ∀ x ∈ T, In c 6 w 1 x.u.ao x.u.t.ids.length x.u.cap (x.u.t.ids.map (Value.int .i64))
section
variable {p : Nat} {T : List ST} {lo zo bo : Option Addr} {lcap zcap bcap : Nat} {c c' : Nat → Nat} {w w' : World}
theorem SRows.start (p : Nat) (c : Nat → Nat) (w : World) : SRows p [] none 0 none 0 none 0 c w := ⟨Row.nil _ _ _ _ _, Row.nil _ _ _ _ _, Row.nil _ _ _ _ _, fun _ h => by cases h⟩
theorem SRows.stp {J : Nat → Prop} (h : SRows p T lo lcap zo zcap bo bcap c w) (t : Stp J c c' w w') (h1 : ¬ J 13) (h2 : ¬ J 14) (h4 : ¬ J 16) (h3 : ¬ J 6) : SRows p T lo lcap zo zcap bo bcap c' w' :=
  ⟨h.lr.stp t h1, h.zr.stp t h2, h.br.stp t h4, fun u hu => (h.is u hu).stp t h3⟩
theorem SRows.stpF (h : SRows p T lo lcap zo zcap bo bcap c w) (t : Stp (fun _ => False) c c' w w') : SRows p T lo lcap zo zcap bo bcap c' w' := h.stp t id id id id
end

section
variable {P : Program} {ops : Array Oper} {o : Oper} {a : Act} {w : World} {K : Act → World → Prop} {Q : Exit → Act → World → Prop} {E : Prop}
theorem fill1 (v : Value) (hv : v.cells = #[v]) (C : Array Value) (hC : C.size = 1) : Instr.fill (fun i => some (i * 1, 1)) C [(0, v)] = some #[v] := by
  obtain ⟨l⟩ := C
  match l, hC with
  | [_], _ => simp [Instr.fill, hv]
/-- A new array of one cell, as a step of a drawn region. -/
theorem step_bs1 (hg : o.guard = none) (t e : TypeId) (x : Operand) (ho : o.op = .buildSlice t 1 #[(0, x)]) (z : Value) (bytes : Nat) (hu : P.underlying t = some (.slice e)) (hinfo : (P.info? e).map (fun i => (i.zero, i.size, i.bytes)) = some (some z, 1, bytes))
    {v : Value} (hv : v.cells = #[v]) (hx : a.eval x = v) (hK : K (a.put o.dst (.slice (some ⟨w.heap.size, 0, none⟩) 1 1)) (w.alloc (.cells #[v] e))) :
    if Region.wanted o (yielded ops a.tmps) = true then Oper.wp P o a w K Q else E := by
  have hw : Region.wanted o (yielded ops a.tmps) = true := by simp [Region.wanted, hg]
  rw [if_pos hw]
  obtain ⟨i, hi, hz, hsize, hby⟩ := info_parts hinfo
  have hs : i.size = 1 := by omega
  refine wp_buildSlice t e 1 #[(0, x)] ho _ i z hu hi hz (by rw [hs]; decide) (by rw [hs]; decide) ?_ hK
  rw [hs]
  have he : ((#[(0, x)] : Array (Nat × Operand)).map fun (i, x) => (i, a.eval x)).toList = [(0, v)] := by simp [hx]
  rw [he]
  exact fill1 _ hv _ (by simp)
section
variable {c0 : Nat → Nat} {w0 : World} {ka kb : Nat} {B : (Nat → Nat) → World → Prop} {x9 : Nat} {L : List Value} {ty : TypeId}
theorem step_bs1G (hg : o.guard = none) (t e : TypeId) (x : Operand) (ho : o.op = .buildSlice t 1 #[(0, x)]) (z : Value) (bytes : Nat) (hu : P.underlying t = some (.slice e)) (hinfo : (P.info? e).map (fun i => (i.zero, i.size, i.bytes)) = some (some z, 1, bytes))
    {e' : TypeId} {m : Nat} {ao : Option Addr} {n cap : Nat} {xs : List Value} {v : Value} (h : G3 c0 w0 ka kb (R0 ka e' m ao n cap xs) B x9 L ty w) (hv : v.cells = #[v]) (hx : a.eval x = v)
    (hK : ∀ b w', Hid (G3 c0 w0 ka kb (R1 ka e' m ao n cap xs b [v]) B x9 L ty w') → K (a.put o.dst (.slice (some ⟨b, 0, none⟩) 1 1)) w') :
    if Region.wanted o (yielded ops a.tmps) = true then Oper.wp P o a w K Q else E :=
  step_bs1 hg t e x ho z bytes hu hinfo hv hx (hK _ _ (Lib.hid (h.b1 (news := #[v]) rfl)))
end

/-- Three rows, before, amid or behind their appends. -/
structure G4 (c0 : Nat → Nat) (w0 : World) (ka kb kc : Nat) (A B C : (Nat → Nat) → World → Prop) (w : World) : Prop where
  kab : ka ≠ kb
  kac : ka ≠ kc
  kbc : kb ≠ kc
  kal : 9 ≤ ka ∧ ka ≠ 15
  kbl : 9 ≤ kb ∧ kb ≠ 15
  kcl : 9 ≤ kc ∧ kc ≠ 15
  pa : Kp ka A
  pb : Kp kb B
  pc : Kp kc C
  ex : ∃ c, Stp (fun j => j = ka ∨ j = kb ∨ j = kc) c0 c w0 w ∧ A c w ∧ B c w ∧ C c w
section
variable {c0 : Nat → Nat} {w0 : World} {ka kb kc : Nat} {A B C : (Nat → Nat) → World → Prop}
theorem G4.rot (h : G4 c0 w0 ka kb kc A B C w) : G4 c0 w0 kb kc ka B C A w := by
  obtain ⟨c, h1, h2, h3, h4⟩ := h.ex
  exact ⟨h.kbc, h.kab.symm, h.kac.symm, h.kbl, h.kcl, h.kal, h.pb, h.pc, h.pa, c, h1.mono (fun _ hj => by omega), h3, h4, h2⟩
theorem G4.drew (h : G4 c0 w0 ka kb kc A B C w) : G4 c0 w0 ka kb kc A B C w.drew := by
  obtain ⟨c, h1, h2, h3, h4⟩ := h.ex
  have t : Stp (fun _ => False) c c w w.drew := (Stp.refl _ _ _).drew
  exact ⟨h.kab, h.kac, h.kbc, h.kal, h.kbl, h.kcl, h.pa, h.pb, h.pc, c, h1.drew, h.pa _ _ _ _ _ id id t h2, h.pb _ _ _ _ _ id id t h3, h.pc _ _ _ _ _ id id t h4⟩
theorem G4.b1 {e : TypeId} {m : Nat} {ao : Option Addr} {n cap : Nat} {xs : List Value} (h : G4 c0 w0 ka kb kc (R0 ka e m ao n cap xs) B C w) {b : Nat} {news : Array Value} {t : TypeId} (hb : b = w.heap.size) :
    G4 c0 w0 ka kb kc (R1 ka e m ao n cap xs b news.toList) B C (w.alloc (.cells news t)) := by
  obtain ⟨c, h1, h2, h3, h4⟩ := h.ex
  subst hb
  have t' := (Stp.refl (fun _ => False) c w).alloc (.cells news t) 15
  have hn : Blk (paint c w.heap.size 15) 15 (w.alloc (.cells news t)) w.heap.size news.toList t := by
    have := Blk.new c 15 w news.toList t
    rwa [Array.toArray_toList] at this
  exact ⟨h.kab, h.kac, h.kbc, h.kal, h.kbl, h.kcl, R1.kp _ _ _ _ _ _ _ _ _, h.pb, h.pc, _, h1.alloc _ 15, ⟨Row.stp h2 t' id, t, hn⟩, h.pb _ _ _ _ _ id id t' h3, h.pc _ _ _ _ _ id id t' h4⟩
theorem step_bs1G4 (hg : o.guard = none) (t e : TypeId) (x : Operand) (ho : o.op = .buildSlice t 1 #[(0, x)]) (z : Value) (bytes : Nat) (hu : P.underlying t = some (.slice e)) (hinfo : (P.info? e).map (fun i => (i.zero, i.size, i.bytes)) = some (some z, 1, bytes))
    {e' : TypeId} {m : Nat} {ao : Option Addr} {n cap : Nat} {xs : List Value} {v : Value} (h : G4 c0 w0 ka kb kc (R0 ka e' m ao n cap xs) B C w) (hv : v.cells = #[v]) (hx : a.eval x = v)
    (hK : ∀ b w', Hid (G4 c0 w0 ka kb kc (R1 ka e' m ao n cap xs b [v]) B C w') → K (a.put o.dst (.slice (some ⟨b, 0, none⟩) 1 1)) w') :
    if Region.wanted o (yielded ops a.tmps) = true then Oper.wp P o a w K Q else E :=
  step_bs1 hg t e x ho z bytes hu hinfo hv hx (hK _ _ (Lib.hid (h.b1 (news := #[v]) rfl)))
theorem step_bs7G4 (hg : o.guard = none) (t e : TypeId) (x : Operand) (ho : o.op = .buildSlice t 1 #[(0, x)]) (z : Value) (bytes : Nat) (hu : P.underlying t = some (.slice e)) (hinfo : (P.info? e).map (fun i => (i.zero, i.size, i.bytes)) = some (some z, 7, bytes))
    {e' : TypeId} {m : Nat} {ao : Option Addr} {n cap : Nat} {xs : List Value} {v0 v1 v2 v3 v4 v5 v6 : Value} (h : G4 c0 w0 ka kb kc (R0 ka e' m ao n cap xs) B C w) (hx : a.eval x = .agg #[v0, v1, v2, v3, v4, v5, v6])
    (hK : ∀ b w', Hid (G4 c0 w0 ka kb kc (R1 ka e' m ao n cap xs b [v0, v1, v2, v3, v4, v5, v6]) B C w') → K (a.put o.dst (.slice (some ⟨b, 0, none⟩) 1 1)) w') :
    if Region.wanted o (yielded ops a.tmps) = true then Oper.wp P o a w K Q else E :=
  step_bs7 hg t e x ho z bytes hu hinfo hx (hK _ _ (Lib.hid (h.b1 (news := #[v0, v1, v2, v3, v4, v5, v6]) rfl)))
theorem stepG4 (hg : o.guard = none) (s x : Operand) (t : TypeId)
    (hop : o.op = Op.call { callee := Callee.builtin Builtin.append, args := #[s, x], argTypes := #[t, t] })
    (e : TypeId) (z : Value) (size bytes : Nat) (ht : P.underlying t = some (.slice e)) (hinfo : (P.info? e).map (fun i => (i.zero, i.size, i.bytes)) = some (some z, size, bytes)) (hzs : z.cells.size = size)
    {ao : Option Addr} {n cap : Nat} {xs : List Value} {b m : Nat} {news : List Value} (h : G4 c0 w0 ka kb kc (R1 ka e size ao n cap xs b news) B C w)
    (hs : a.eval s = .slice ao n cap) (hx : a.eval x = .slice (some ⟨b, 0, none⟩) m m) (hm : news.length = m * size) (h1 : ∀ u ∈ news, u.oneCell' = true)
    (h63 : n + m ≤ maxLen) (hbytes : (n + m) * bytes ≤ 140737488355328)
    (hK : ∀ ao' cap' w', Hid (G4 c0 w0 ka kb kc (R0 ka e size ao' (n + m) cap' (xs ++ news)) B C w') → K (a.put o.dst (.slice ao' (n + m) cap')) w') :
    if Region.wanted o (yielded ops a.tmps) = true then Oper.wp P o a w K Q else E := by
  obtain ⟨c, h1', ⟨h2, t2, hb⟩, h3, h4⟩ := h.ex
  have hsrc : Src w size (.slice (some ⟨b, 0, none⟩) m m) m news := (Row.blk (size := size) (n := m) hb hm (by omega)).src
  refine step_row hg s x t hop c ka e z size bytes ht hinfo hzs ao n cap xs hs h2 _ m news hx hsrc h1 h63 hbytes ?_
  intro ao' cap' w' hr hst _
  refine hK ao' cap' w' (Lib.hid ⟨h.kab, h.kac, h.kbc, h.kal, h.kbl, h.kcl, R0.kp _ _ _ _ _ _ _, h.pb, h.pc, _, h1'.trans (hst.mono fun _ hj => .inl hj), hr, h.pb _ _ _ _ _ (fun hj => h.kab hj.symm) (fun hj => h.kal.2 hj.symm) hst h3, h.pc _ _ _ _ _ (fun hj => h.kac hj.symm) (fun hj => h.kal.2 hj.symm) hst h4⟩)
end
theorem s19 {c : Nat → Nat} {w9 : World} {p yb xb ka kb kc : Nat} {xn : Int} {u0 u1 : Value} {t1 t2 : TypeId} {A B C : (Nat → Nat) → World → Prop} (Y : Blk c 15 w9 yb [.pointer (some ⟨p, 0, none⟩), .int .i64 xn, .int .i64 0, .int .i64 0, .int .i64 0, .slice none 0 0, .int .i64 0] t1) (X : Blk c 15 w9 xb [u0, u1, .int .i64 xn] t2) (G : G4 c w9 ka kb kc A B C w) : S23 p xn yb xb w := by
  obtain ⟨_, tg, -, -, -⟩ := G.ex
  have hj : ¬ (15 = ka ∨ 15 = kb ∨ 15 = kc) := by
    have := G.kal.2
    have := G.kbl.2
    have := G.kcl.2
    omega
  exact ⟨cl_7 (Y.stp tg hj), (act_cells (X.stp tg hj)).2.2.1⟩
end

/-- What is loaded where it is marked whether a claim was short. -/
def S25 (xb i : Nat) (a z b : Addr) (l0 l1 l2 l3 l4 l5 l6 nv bv xi : Value) (w : World) : Prop :=
  w.cell? ⟨xb, 1, none⟩ = some xi ∧
  (w.cell? (a.add (i * 7)) = some l0 ∧ w.cell? ⟨(a.add (i * 7)).block, (a.add (i * 7)).off + 1, none⟩ = some l1 ∧ w.cell? ⟨(a.add (i * 7)).block, (a.add (i * 7)).off + 2, none⟩ = some l2 ∧ w.cell? ⟨(a.add (i * 7)).block, (a.add (i * 7)).off + 3, none⟩ = some l3 ∧ w.cell? ⟨(a.add (i * 7)).block, (a.add (i * 7)).off + 4, none⟩ = some l4 ∧ w.cell? ⟨(a.add (i * 7)).block, (a.add (i * 7)).off + 5, none⟩ = some l5 ∧ w.cell? ⟨(a.add (i * 7)).block, (a.add (i * 7)).off + 6, none⟩ = some l6) ∧
  w.cell? (z.add i) = some nv ∧ w.cell? (b.add i) = some bv
section
variable {p : Nat} {T : List ST} {x : ST} {a z b : Addr} {lcap zcap bcap xb i : Nat} {c : Nat → Nat} {w0 w : World}
theorem s25 {t2 : TypeId} {l0 l1 l2 l3 l4 l5 l6 u0 u1 u2 : Value} (Q : SRows p T (some a) lcap (some z) zcap (some b) bcap c w0) (X : Blk c 15 w0 xb [u0, u1, u2] t2) (hT : T[i]? = some x) (he : x.lc p = [l0, l1, l2, l3, l4, l5, l6]) (h : OldF c w0 w) : S25 xb i a z b l0 l1 l2 l3 l4 l5 l6 (.int .i64 x.u.t.n) (.bool x.b) u1 w := by
  obtain ⟨c', t⟩ := h
  have Q' := Q.stpF t
  obtain ⟨a', h1, -, -, h4, -⟩ := Row.cells7a (ST.lc_len p) Q'.lr hT he
  cases h1
  obtain ⟨z', e1, -, e3, -⟩ := Q'.zr.cell (j := i) (v := .int .i64 x.u.t.n) (by simp [hT])
  cases e1
  obtain ⟨b', f1, -, f3, -⟩ := Q'.br.cell (j := i) (v := .bool x.b) (by simp [hT])
  cases f1
  exact ⟨(act_cells (X.stp t id)).2.1, h4, e3, f3⟩
/-- The mark is stored. -/
def E25 (c : Nat → Nat) (w0 : World) (b : Addr) (n bcap : Nat) (BB : List Value) (w : World) : Prop := ∃ c', Stp (· = 16) c c' w0 w ∧ Row c' 16 w 4 1 (some b) n bcap BB
theorem b25 {n : Nat} {BB : List Value} {v : Value} (hb : Row c 16 w0 4 1 (some b) n bcap BB) (h : OldF c w0 w) (hv : BB[i]? = some v) : w.cell? (b.add i) = some v ∧ w.frozen? (b.add i) = false ∧ (b.add i).block < w.heap.size := by
  obtain ⟨c', t⟩ := h
  obtain ⟨b', f1, -, f3, f4, -⟩ := (hb.stp t id).cell (j := i) hv
  cases f1
  exact ⟨f3, f4, World.block_lt_of_cell? _ _ f3⟩
theorem e25 {n : Nat} {BB : List Value} (hb : Row c 16 w0 4 1 (some b) n bcap BB) (h : OldF c w0 w) (hi : i < BB.length) (v : Value) : E25 c w0 b n bcap (BB.set i v) (w.setCell (b.add i) v) := by
  obtain ⟨c', t⟩ := h
  have hr := (hb.stp t id).set i v hi
  have hf := add_flat hb.2.2.2.1 i
  rw [← hf] at hr
  exact ⟨c', (Stp.mono t (fun _ h => h.elim)).setCell (p := b.add i) v (by rw [add_block]; exact (hb.stp t id).2.2.2.2.1), hr⟩

/-- What is loaded where two claims are compared. -/
def S57 (tb ub i k : Nat) (z : Addr) (l0 l1 l2 l3 l4 l5 l6 m0 m1 m2 m3 m4 m5 m6 ni nk : Value) (w : World) : Prop :=
  (w.cell? ⟨tb, 0, none⟩ = some l0 ∧ w.cell? ⟨tb, 1, none⟩ = some l1 ∧ w.cell? ⟨tb, 2, none⟩ = some l2 ∧ w.cell? ⟨tb, 3, none⟩ = some l3 ∧ w.cell? ⟨tb, 4, none⟩ = some l4 ∧ w.cell? ⟨tb, 5, none⟩ = some l5 ∧ w.cell? ⟨tb, 6, none⟩ = some l6) ∧
  (w.cell? ⟨ub, 0, none⟩ = some m0 ∧ w.cell? ⟨ub, 1, none⟩ = some m1 ∧ w.cell? ⟨ub, 2, none⟩ = some m2 ∧ w.cell? ⟨ub, 3, none⟩ = some m3 ∧ w.cell? ⟨ub, 4, none⟩ = some m4 ∧ w.cell? ⟨ub, 5, none⟩ = some m5 ∧ w.cell? ⟨ub, 6, none⟩ = some m6) ∧
  w.cell? (z.add i) = some ni ∧ w.cell? (z.add k) = some nk
theorem s57 {tb ub k n : Nat} {t1 t2 : TypeId} {ZZ : List Value} {l0 l1 l2 l3 l4 l5 l6 m0 m1 m2 m3 m4 m5 m6 ni nk : Value} (Z : Row c 14 w0 3 1 (some z) n zcap ZZ) (hi : ZZ[i]? = some ni) (hk : ZZ[k]? = some nk) (Y : Blk c 15 w0 tb [l0, l1, l2, l3, l4, l5, l6] t1) (U : Blk c 15 w0 ub [m0, m1, m2, m3, m4, m5, m6] t2) (h : OldF c w0 w) : S57 tb ub i k z l0 l1 l2 l3 l4 l5 l6 m0 m1 m2 m3 m4 m5 m6 ni nk w := by
  obtain ⟨c', t⟩ := h
  have Z' := Z.stp t id
  obtain ⟨z', e1, -, e3, -⟩ := Z'.cell (j := i) hi
  cases e1
  obtain ⟨z'', f1, -, f3, -⟩ := Z'.cell (j := k) hk
  cases f1
  exact ⟨cl_7 (Y.stp t id), cl_7 (U.stp t id), e3, f3⟩
end
end Go.Proofs.YtoifknfmamcimaaDoor

/- Regions 19 and 40 of MultiShares, a theorem each. No condition beyond each theorem's own. -/
namespace Go.Proofs.YtoifknfmamcimaaDoor
open Go.RowKit

theorem Tryd.infoIntT : (Tryd.prog.info? 3).map (fun i => (i.zero, i.size, i.bytes)) = some (some (.int .i64 0), 1, 8) := by kernel_rfl
theorem Tryd.infoI64T : (Tryd.prog.info? 2).map (fun i => (i.zero, i.size, i.bytes)) = some (some (.int .i64 0), 1, 8) := by kernel_rfl
theorem Tryd.infoBoolT : (Tryd.prog.info? 4).map (fun i => (i.zero, i.size, i.bytes)) = some (some (.bool false), 1, 1) := by kernel_rfl
theorem Tryd.infoTryT : (Tryd.prog.info? 73).map (fun i => (i.zero, i.size, i.bytes)) = some (some (.agg #[.pointer none, .int .i64 0, .int .i64 0, .int .i64 0, .int .i64 0, .slice none 0 0, .int .i64 0]), 7, 72) := by kernel_rfl

def CellT (x9 : Nat) (v1 v3 : Value) (w : World) : Prop := w.cell? ⟨x9, 1, none⟩ = some v1 ∧ w.cell? ⟨x9, 3, none⟩ = some v3
theorem G3.mt {c0 : Nat → Nat} {w0 : World} {ka kb : Nat} {A B : (Nat → Nat) → World → Prop} {x9 : Nat} {ty : TypeId} {w : World} {v0 v1 v2 v3 v4 v5 v6 : Value} (h : G3 c0 w0 ka kb A B x9 [v0, v1, v2, v3, v4, v5, v6] ty w) : CellT x9 v1 v3 w := ⟨h.m.1, h.m.2.1⟩

noncomputable def Tryd.cs19 : Code := (Tryd.f8.body.bind (regionN 19)).getD .skip

set_option maxRecDepth 1000000 in
set_option maxHeartbeats 100000000 in
theorem Tryd.rs19 {p xb yb nT lcap zcap bcap : Nat} {xn : Int} {lo zo bo : Option Addr} {LL ZZ BB : List Value} {u0 u1 : Value} {c9 : Nat → Nat} {w9 : World}
    (GG : Hid (G4 c9 w9 13 14 16 (R0 13 73 7 lo nT lcap LL) (R0 14 3 1 zo nT zcap ZZ) (R0 16 4 1 bo nT bcap BB) w9)) (Y9 : Hid (Blk c9 15 w9 yb [.pointer (some ⟨p, 0, none⟩), .int .i64 xn, .int .i64 0, .int .i64 0, .int .i64 0, .slice none 0 0, .int .i64 0] 73)) (X9 : Hid (Blk c9 15 w9 xb [u0, u1, .int .i64 xn] 71))
    (b63 : Hid (nT + 1 ≤ maxLen)) (bby : Hid ((nT + 1) * 72 ≤ 140737488355328)) (bbz : Hid ((nT + 1) * 8 ≤ 140737488355328)) (bbb : Hid ((nT + 1) * 1 ≤ 140737488355328)) {fr0 fr1 fr2 fr3 fr4 fr5 fr6 fr7 fr8 fr9 fr10 fr14 fr17 fr18 fr19 fr20 fr21 fr22 fr23 fr24 fr25 fr26 fr27 fr28 fr29 fr30 fr31 fr32 fr33 fr34 fr35 fr36 fr37 fr38 fr39 fr40 fr41 fr42 fr43 fr44 fr45 fr46 fr47 fr48 fr49 fr50 fr51 fr52 fr53 fr54 fr55 fr56 fr57 fr58 fr59 fr60 fr61 fr62 fr63 fr64 fr65 fr66 fr67 fr68 fr69 fr70 fr71 fr72 fr73 fr74 fr75 fr76 fr77 fr78 fr79 fr80 fr81 fr82 fr83 fr84 fr85 fr86 fr87 fr88 fr89 fr90 fr91 fr92 fr93 fr94 fr95 fr96 fr97 fr98 fr99 fr100 fr101 fr102 fr103 fr104 fr105 fr106 fr107 fr108 fr109 fr110 fr111 fr112 fr113 fr114 fr115 fr116 fr117 fr118 fr119 fr120 fr121 fr122 fr123 fr124 fr125 fr126 fr127 fr128 fr129 fr130 fr131 fr132 fr133 fr134 fr135 fr136 fr137 fr138 fr139 fr140 fr141 fr142 fr143 fr144 fr145 fr146 fr147 fr148 fr149 fr150 fr151 fr152 fr153 fr154 fr155 fr156 fr157 fr158 fr159 fr160 fr161 fr162 fr163 fr164 fr165 fr166 fr167 fr168 fr169 fr170 fr171 fr172 fr173 fr174 fr175 fr176 fr177 fr178 fr179 fr180 fr181 fr182 fr183 fr184 fr185 fr186 fr187 fr188 fr189 fr190 fr191 fr192 fr193 fr194 fr195 fr196 fr197 fr198 fr199 fr200 fr201 fr202 fr203 fr204 fr205 fr206 fr207 fr208 fr209 fr210 fr211 fr212 fr213 fr214 fr215 fr216 fr217 fr218 fr219 fr220 fr221 fr222 fr223 fr224 fr225 fr226 fr227 fr228 fr229 fr230 fr231 fr232 fr233 fr234 fr235 fr236 fr237 fr238 fr239 fr240 fr241 fr242 fr243 fr244 fr245 fr246 fr247 fr248 fr249 fr250 fr251 fr252 fr253 fr254 fr255 fr256 fr257 fr258 fr259 fr260 fr261 fr262 fr263 fr264 fr265 fr266 fr267 fr268 fr269 fr270 fr271 fr272 fr273 fr274 fr275 fr276 fr277 fr278 fr279 fr280 fr281 fr282 fr283 fr284 : Value} {Q0 : Exit → Act → World → Prop}
    (hQ : ∀ (ao1 : Option Addr) (cap1 : Nat) (ao2 : Option Addr) (cap2 : Nat) (ao3 : Option Addr) (cap3 : Nat) (w' : World), ∀ g72 g73 g74 g75 g76 g77 g78 g79 g80 g81 g82 g83 : Value, Hid (G4 c9 w9 13 14 16 (R0 13 73 7 ao1 (nT + 1) cap1 (LL ++ [.pointer (some ⟨p, 0, none⟩), .int .i64 xn, .int .i64 0, .int .i64 0, .int .i64 0, .slice none 0 0, .int .i64 0])) (R0 14 3 1 ao2 (nT + 1) cap2 (ZZ ++ [.int .i64 xn])) (R0 16 4 1 ao3 (nT + 1) cap3 (BB ++ [.bool false])) w') → Q0 .normal ⟨#[fr0, fr1, fr2, fr3, fr4, fr5, fr6, fr7, fr8, fr9, fr10, .slice ao2 (nT + 1) cap2, .slice ao1 (nT + 1) cap1, .slice ao3 (nT + 1) cap3, fr14, .pointer (some ⟨xb, 0, none⟩), .pointer (some ⟨yb, 0, none⟩), fr17, fr18, fr19, fr20, fr21, fr22, fr23, fr24, fr25, fr26, fr27, fr28, fr29, fr30, fr31, fr32, fr33, fr34, fr35, fr36, fr37, fr38, fr39, fr40, fr41, fr42, fr43, fr44, fr45, fr46, fr47, fr48, fr49, fr50, fr51, fr52, fr53, fr54, fr55, fr56, fr57, fr58, fr59, fr60, fr61, fr62, fr63, fr64, fr65, fr66, fr67, fr68, fr69, fr70, fr71, g72, g73, g74, g75, g76, g77, g78, g79, g80, g81, g82, g83, fr84, fr85, fr86, fr87, fr88, fr89, fr90, fr91, fr92, fr93, fr94, fr95, fr96, fr97, fr98, fr99, fr100, fr101, fr102, fr103, fr104, fr105, fr106, fr107, fr108, fr109, fr110, fr111, fr112, fr113, fr114, fr115, fr116, fr117, fr118, fr119, fr120, fr121, fr122, fr123, fr124, fr125, fr126, fr127, fr128, fr129, fr130, fr131, fr132, fr133, fr134, fr135, fr136, fr137, fr138, fr139, fr140, fr141, fr142, fr143, fr144, fr145, fr146, fr147, fr148, fr149, fr150, fr151, fr152, fr153, fr154, fr155, fr156, fr157, fr158, fr159, fr160, fr161, fr162, fr163, fr164, fr165, fr166, fr167, fr168, fr169, fr170, fr171, fr172, fr173, fr174, fr175, fr176, fr177, fr178, fr179, fr180, fr181, fr182, fr183, fr184, fr185, fr186, fr187, fr188, fr189, fr190, fr191, fr192, fr193, fr194, fr195, fr196, fr197, fr198, fr199, fr200, fr201, fr202, fr203, fr204, fr205, fr206, fr207, fr208, fr209, fr210, fr211, fr212, fr213, fr214, fr215, fr216, fr217, fr218, fr219, fr220, fr221, fr222, fr223, fr224, fr225, fr226, fr227, fr228, fr229, fr230, fr231, fr232, fr233, fr234, fr235, fr236, fr237, fr238, fr239, fr240, fr241, fr242, fr243, fr244, fr245, fr246, fr247, fr248, fr249, fr250, fr251, fr252, fr253, fr254, fr255, fr256, fr257, fr258, fr259, fr260, fr261, fr262, fr263, fr264, fr265, fr266, fr267, fr268, fr269, fr270, fr271, fr272, fr273, fr274, fr275, fr276, fr277, fr278, fr279, fr280, fr281, fr282, fr283, fr284], []⟩ w') : Code.wp Tryd.prog Tryd.cs19 Q0 ⟨#[fr0, fr1, fr2, fr3, fr4, fr5, fr6, fr7, fr8, fr9, fr10, .slice zo nT zcap, .slice lo nT lcap, .slice bo nT bcap, fr14, .pointer (some ⟨xb, 0, none⟩), .pointer (some ⟨yb, 0, none⟩), fr17, fr18, fr19, fr20, fr21, fr22, fr23, fr24, fr25, fr26, fr27, fr28, fr29, fr30, fr31, fr32, fr33, fr34, fr35, fr36, fr37, fr38, fr39, fr40, fr41, fr42, fr43, fr44, fr45, fr46, fr47, fr48, fr49, fr50, fr51, fr52, fr53, fr54, fr55, fr56, fr57, fr58, fr59, fr60, fr61, fr62, fr63, fr64, fr65, fr66, fr67, fr68, fr69, fr70, fr71, fr72, fr73, fr74, fr75, fr76, fr77, fr78, fr79, fr80, fr81, fr82, fr83, fr84, fr85, fr86, fr87, fr88, fr89, fr90, fr91, fr92, fr93, fr94, fr95, fr96, fr97, fr98, fr99, fr100, fr101, fr102, fr103, fr104, fr105, fr106, fr107, fr108, fr109, fr110, fr111, fr112, fr113, fr114, fr115, fr116, fr117, fr118, fr119, fr120, fr121, fr122, fr123, fr124, fr125, fr126, fr127, fr128, fr129, fr130, fr131, fr132, fr133, fr134, fr135, fr136, fr137, fr138, fr139, fr140, fr141, fr142, fr143, fr144, fr145, fr146, fr147, fr148, fr149, fr150, fr151, fr152, fr153, fr154, fr155, fr156, fr157, fr158, fr159, fr160, fr161, fr162, fr163, fr164, fr165, fr166, fr167, fr168, fr169, fr170, fr171, fr172, fr173, fr174, fr175, fr176, fr177, fr178, fr179, fr180, fr181, fr182, fr183, fr184, fr185, fr186, fr187, fr188, fr189, fr190, fr191, fr192, fr193, fr194, fr195, fr196, fr197, fr198, fr199, fr200, fr201, fr202, fr203, fr204, fr205, fr206, fr207, fr208, fr209, fr210, fr211, fr212, fr213, fr214, fr215, fr216, fr217, fr218, fr219, fr220, fr221, fr222, fr223, fr224, fr225, fr226, fr227, fr228, fr229, fr230, fr231, fr232, fr233, fr234, fr235, fr236, fr237, fr238, fr239, fr240, fr241, fr242, fr243, fr244, fr245, fr246, fr247, fr248, fr249, fr250, fr251, fr252, fr253, fr254, fr255, fr256, fr257, fr258, fr259, fr260, fr261, fr262, fr263, fr264, fr265, fr266, fr267, fr268, fr269, fr270, fr271, fr272, fr273, fr274, fr275, fr276, fr277, fr278, fr279, fr280, fr281, fr282, fr283, fr284], []⟩ w9 := by
  conv => arg 2; whnf
  refine wp_region_noPanic ?_
  have HQ := Lib.hid hQ
  clear hQ
  have G0 := Lib.hid GG.out.drew
  refine wp_region_held_drew (S := S23 p xn yb xb) (by kernel_rfl) (s19 Y9.out X9.out G0.out) (fun hS0 => ?_)
  have hS := Lib.hid hS0
  clear hS0
  generalize w9.drew = wq0 at G0 hS ⊢
  refine wpH_takeL (i := 0) (v := ?_) rfl (by kernel_rfl) (by kernel_rfl) (by kernel_rfl) (fun _ _ _ h => h) (Or.inl ⟨by rfl, ?_⟩) hS.out ?_
  rotate_left
  · intro wy hSy
    clear hSy
    go_simp
    try with_reducible rfl
  try simp only [Act.put, List.setIfInBounds_toArray, List.set_cons_zero, List.set_cons_succ]
  refine wpH_takeL (i := 1) (v := ?_) rfl (by kernel_rfl) (by kernel_rfl) (by kernel_rfl) (fun _ _ _ h => h) (Or.inl ⟨by rfl, ?_⟩) hS.out ?_
  rotate_left
  · intro wy hSy
    obtain ⟨⟨s0, s1, s2, s3, s4, s5, s6⟩, q2⟩ := hSy
    go_simp
    try with_reducible rfl
  try simp only [Act.put, List.setIfInBounds_toArray, List.set_cons_zero, List.set_cons_succ]
  refine wpH_takeL (i := 4) (v := ?_) rfl (by kernel_rfl) (by kernel_rfl) (by kernel_rfl) (fun _ _ _ h => h) (Or.inl ⟨by rfl, ?_⟩) hS.out ?_
  rotate_left
  · intro wy hSy
    clear hSy
    go_simp
    try with_reducible rfl
  try simp only [Act.put, List.setIfInBounds_toArray, List.set_cons_zero, List.set_cons_succ]
  refine wpH_takeL (i := 5) (v := ?_) rfl (by kernel_rfl) (by kernel_rfl) (by kernel_rfl) (fun _ _ _ h => h) (Or.inl ⟨by rfl, ?_⟩) hS.out ?_
  rotate_left
  · intro wy hSy
    clear hSy
    go_simp
    try with_reducible rfl
  try simp only [Act.put, List.setIfInBounds_toArray, List.set_cons_zero, List.set_cons_succ]
  refine wpH_takeL (i := 6) (v := ?_) rfl (by kernel_rfl) (by kernel_rfl) (by kernel_rfl) (fun _ _ _ h => h) (Or.inl ⟨by rfl, ?_⟩) hS.out ?_
  rotate_left
  · intro wy hSy
    obtain ⟨⟨s0, s1, s2, s3, s4, s5, s6⟩, q2⟩ := hSy
    go_simp
    try with_reducible rfl
  try simp only [Act.put, List.setIfInBounds_toArray, List.set_cons_zero, List.set_cons_succ]
  refine wpH_takeL (i := 9) (v := ?_) rfl (by kernel_rfl) (by kernel_rfl) (by kernel_rfl) (fun _ _ _ h => h) (Or.inl ⟨by rfl, ?_⟩) hS.out ?_
  rotate_left
  · intro wy hSy
    clear hSy
    go_simp
    try with_reducible rfl
  try simp only [Act.put, List.setIfInBounds_toArray, List.set_cons_zero, List.set_cons_succ]
  refine wpAnyH_ready (rs := [2, 7, 10]) (by kernel_rfl) (by simp) (readyH_consL rfl (fun K hK => ?_) (readyH_consL rfl (fun K hK => ?_) (readyH_consL rfl (fun K hK => ?_) AllReadyH.nil)))
  · refine step_bs7G4 rfl 69 73 (.tmp 73) rfl (.agg #[.pointer none, .int .i64 0, .int .i64 0, .int .i64 0, .int .i64 0, .slice none 0 0, .int .i64 0]) 72 Tryd.underlying69 Tryd.infoTryT G0.out rfl ?_
    intro ba wq1 G1
    refine hK.out _ _ (s19 Y9.out X9.out G1.out) (fun hS1 => ?_)
    clear hK K hS G0
    have hS := Lib.hid hS1
    clear hS1
    try simp only [Act.put, List.setIfInBounds_toArray, List.set_cons_zero, List.set_cons_succ]
    refine wpAnyH_ready (rs := [3, 7, 10]) (by kernel_rfl) (by simp) (readyH_consL rfl (fun K hK => ?_) (readyH_consL rfl (fun K hK => ?_) (readyH_consL rfl (fun K hK => ?_) AllReadyH.nil)))
    · refine stepG4 rfl (.tmp 72) (.tmp 74) 69 rfl 73 (.agg #[.pointer none, .int .i64 0, .int .i64 0, .int .i64 0, .int .i64 0, .slice none 0 0, .int .i64 0]) 7 72 Tryd.underlying69 Tryd.infoTryT rfl G1.out rfl rfl rfl (by simp [Value.oneCell']) b63.out bby.out ?_
      intro ao1 cap1 wq2 G2
      refine hK.out _ _ (s19 Y9.out X9.out G2.out) (fun hS2 => ?_)
      clear hK K hS G1
      have hS := Lib.hid hS2
      clear hS2
      try simp only [Act.put, List.setIfInBounds_toArray, List.set_cons_zero, List.set_cons_succ]
      refine wpAnyH_ready (rs := [7, 10]) (by kernel_rfl) (by simp) (readyH_consL rfl (fun K hK => ?_) (readyH_consL rfl (fun K hK => ?_) AllReadyH.nil))
      · refine step_bs1G4 rfl 31 3 (.tmp 78) rfl (.int .i64 0) 8 Tryd.underlying31 Tryd.infoIntT G2.out.rot (v := .int .i64 xn) rfl rfl ?_
        intro bb wq3 H3
        have G3 := Lib.hid H3.out.rot.rot
        clear H3
        refine hK.out _ _ (s19 Y9.out X9.out G3.out) (fun hS3 => ?_)
        clear hK K hS G2
        have hS := Lib.hid hS3
        clear hS3
        try simp only [Act.put, List.setIfInBounds_toArray, List.set_cons_zero, List.set_cons_succ]
        refine wpAnyH_ready (rs := [8, 10]) (by kernel_rfl) (by simp) (readyH_consL rfl (fun K hK => ?_) (readyH_consL rfl (fun K hK => ?_) AllReadyH.nil))
        · refine stepG4 rfl (.tmp 76) (.tmp 79) 31 rfl 3 (.int .i64 0) 1 8 Tryd.underlying31 Tryd.infoIntT rfl G3.out.rot rfl rfl rfl (by simp [Value.oneCell']) b63.out bbz.out ?_
          intro ao2 cap2 wq4 H4
          have G4 := Lib.hid H4.out.rot.rot
          clear H4
          refine hK.out _ _ (s19 Y9.out X9.out G4.out) (fun hS4 => ?_)
          clear hK K hS G3
          have hS := Lib.hid hS4
          clear hS4
          try simp only [Act.put, List.setIfInBounds_toArray, List.set_cons_zero, List.set_cons_succ]
          refine wpAnyH_ready (rs := [10]) (by kernel_rfl) (by simp) (readyH_consL rfl (fun K hK => ?_) AllReadyH.nil)
          refine step_bs1G4 rfl 51 4 (.const (.bool false)) rfl (.bool false) 1 Tryd.underlying51 Tryd.infoBoolT G4.out.rot.rot (v := .bool false) rfl rfl ?_
          intro bc wq5 H5
          have G5 := Lib.hid H5.out.rot
          clear H5
          refine hK.out _ _ (s19 Y9.out X9.out G5.out) (fun hS5 => ?_)
          clear hK K hS G4
          have hS := Lib.hid hS5
          clear hS5
          try simp only [Act.put, List.setIfInBounds_toArray, List.set_cons_zero, List.set_cons_succ]
          refine wpAnyH_ready (rs := [11]) (by kernel_rfl) (by simp) (readyH_consL rfl (fun K hK => ?_) AllReadyH.nil)
          refine stepG4 rfl (.tmp 81) (.tmp 82) 51 rfl 4 (.bool false) 1 1 Tryd.underlying51 Tryd.infoBoolT rfl G5.out.rot.rot rfl rfl rfl (by simp [Value.oneCell']) b63.out bbb.out ?_
          intro ao3 cap3 wq6 H6
          have G6 := Lib.hid H6.out.rot
          clear H6
          refine hK.out _ _ (s19 Y9.out X9.out G6.out) (fun hS6 => ?_)
          clear hK K hS G5
          have hS := Lib.hid hS6
          clear hS6
          try simp only [Act.put, List.setIfInBounds_toArray, List.set_cons_zero, List.set_cons_succ]
          refine wpH_takeL (i := 12) (v := ?_) rfl (by kernel_rfl) (by kernel_rfl) (by kernel_rfl) (fun _ _ _ h => h) (Or.inl ⟨by rfl, ?_⟩) hS.out ?_
          rotate_left
          · intro wy hSy
            clear hSy
            go_simp
            try with_reducible rfl
          try simp only [Act.put, List.setIfInBounds_toArray, List.set_cons_zero, List.set_cons_succ]
          refine wpH_takeL (i := 13) (v := ?_) rfl (by kernel_rfl) (by kernel_rfl) (by kernel_rfl) (fun _ _ _ h => h) (Or.inl ⟨by rfl, ?_⟩) hS.out ?_
          rotate_left
          · intro wy hSy
            clear hSy
            go_simp
            try with_reducible rfl
          try simp only [Act.put, List.setIfInBounds_toArray, List.set_cons_zero, List.set_cons_succ]
          refine wpH_takeL (i := 14) (v := ?_) rfl (by kernel_rfl) (by kernel_rfl) (by kernel_rfl) (fun _ _ _ h => h) (Or.inl ⟨by rfl, ?_⟩) hS.out ?_
          rotate_left
          · intro wy hSy
            clear hSy
            go_simp
            try with_reducible rfl
          try simp only [Act.put, List.setIfInBounds_toArray, List.set_cons_zero, List.set_cons_succ]
          refine wpAnyH_done (by kernel_rfl) ?_ _
          exact HQ.out _ _ _ _ _ _ _ _ _ _ _ _ _ _ _ _ _ _ _ G6
        · refine step_bs1G4 rfl 51 4 (.const (.bool false)) rfl (.bool false) 1 Tryd.underlying51 Tryd.infoBoolT G3.out.rot.rot (v := .bool false) rfl rfl ?_
          intro bc wq4 H4
          have G4 := Lib.hid H4.out.rot
          clear H4
          refine hK.out _ _ (s19 Y9.out X9.out G4.out) (fun hS4 => ?_)
          clear hK K hS G3
          have hS := Lib.hid hS4
          clear hS4
          try simp only [Act.put, List.setIfInBounds_toArray, List.set_cons_zero, List.set_cons_succ]
          refine wpAnyH_ready (rs := [8]) (by kernel_rfl) (by simp) (readyH_consL rfl (fun K hK => ?_) AllReadyH.nil)
          refine stepG4 rfl (.tmp 76) (.tmp 79) 31 rfl 3 (.int .i64 0) 1 8 Tryd.underlying31 Tryd.infoIntT rfl G4.out.rot rfl rfl rfl (by simp [Value.oneCell']) b63.out bbz.out ?_
          intro ao2 cap2 wq5 H5
          have G5 := Lib.hid H5.out.rot.rot
          clear H5
          refine hK.out _ _ (s19 Y9.out X9.out G5.out) (fun hS5 => ?_)
          clear hK K hS G4
          have hS := Lib.hid hS5
          clear hS5
          try simp only [Act.put, List.setIfInBounds_toArray, List.set_cons_zero, List.set_cons_succ]
          refine wpAnyH_ready (rs := [11]) (by kernel_rfl) (by simp) (readyH_consL rfl (fun K hK => ?_) AllReadyH.nil)
          refine stepG4 rfl (.tmp 81) (.tmp 82) 51 rfl 4 (.bool false) 1 1 Tryd.underlying51 Tryd.infoBoolT rfl G5.out.rot.rot rfl rfl rfl (by simp [Value.oneCell']) b63.out bbb.out ?_
          intro ao3 cap3 wq6 H6
          have G6 := Lib.hid H6.out.rot
          clear H6
          refine hK.out _ _ (s19 Y9.out X9.out G6.out) (fun hS6 => ?_)
          clear hK K hS G5
          have hS := Lib.hid hS6
          clear hS6
          try simp only [Act.put, List.setIfInBounds_toArray, List.set_cons_zero, List.set_cons_succ]
          refine wpH_takeL (i := 12) (v := ?_) rfl (by kernel_rfl) (by kernel_rfl) (by kernel_rfl) (fun _ _ _ h => h) (Or.inl ⟨by rfl, ?_⟩) hS.out ?_
          rotate_left
          · intro wy hSy
            clear hSy
            go_simp
            try with_reducible rfl
          try simp only [Act.put, List.setIfInBounds_toArray, List.set_cons_zero, List.set_cons_succ]
          refine wpH_takeL (i := 13) (v := ?_) rfl (by kernel_rfl) (by kernel_rfl) (by kernel_rfl) (fun _ _ _ h => h) (Or.inl ⟨by rfl, ?_⟩) hS.out ?_
          rotate_left
          · intro wy hSy
            clear hSy
            go_simp
            try with_reducible rfl
          try simp only [Act.put, List.setIfInBounds_toArray, List.set_cons_zero, List.set_cons_succ]
          refine wpH_takeL (i := 14) (v := ?_) rfl (by kernel_rfl) (by kernel_rfl) (by kernel_rfl) (fun _ _ _ h => h) (Or.inl ⟨by rfl, ?_⟩) hS.out ?_
          rotate_left
          · intro wy hSy
            clear hSy
            go_simp
            try with_reducible rfl
          try simp only [Act.put, List.setIfInBounds_toArray, List.set_cons_zero, List.set_cons_succ]
          refine wpAnyH_done (by kernel_rfl) ?_ _
          exact HQ.out _ _ _ _ _ _ _ _ _ _ _ _ _ _ _ _ _ _ _ G6
      · refine step_bs1G4 rfl 51 4 (.const (.bool false)) rfl (.bool false) 1 Tryd.underlying51 Tryd.infoBoolT G2.out.rot.rot (v := .bool false) rfl rfl ?_
        intro bc wq3 H3
        have G3 := Lib.hid H3.out.rot
        clear H3
        refine hK.out _ _ (s19 Y9.out X9.out G3.out) (fun hS3 => ?_)
        clear hK K hS G2
        have hS := Lib.hid hS3
        clear hS3
        try simp only [Act.put, List.setIfInBounds_toArray, List.set_cons_zero, List.set_cons_succ]
        refine wpAnyH_ready (rs := [7]) (by kernel_rfl) (by simp) (readyH_consL rfl (fun K hK => ?_) AllReadyH.nil)
        refine step_bs1G4 rfl 31 3 (.tmp 78) rfl (.int .i64 0) 8 Tryd.underlying31 Tryd.infoIntT G3.out.rot (v := .int .i64 xn) rfl rfl ?_
        intro bb wq4 H4
        have G4 := Lib.hid H4.out.rot.rot
        clear H4
        refine hK.out _ _ (s19 Y9.out X9.out G4.out) (fun hS4 => ?_)
        clear hK K hS G3
        have hS := Lib.hid hS4
        clear hS4
        try simp only [Act.put, List.setIfInBounds_toArray, List.set_cons_zero, List.set_cons_succ]
        refine wpAnyH_ready (rs := [8]) (by kernel_rfl) (by simp) (readyH_consL rfl (fun K hK => ?_) AllReadyH.nil)
        refine stepG4 rfl (.tmp 76) (.tmp 79) 31 rfl 3 (.int .i64 0) 1 8 Tryd.underlying31 Tryd.infoIntT rfl G4.out.rot rfl rfl rfl (by simp [Value.oneCell']) b63.out bbz.out ?_
        intro ao2 cap2 wq5 H5
        have G5 := Lib.hid H5.out.rot.rot
        clear H5
        refine hK.out _ _ (s19 Y9.out X9.out G5.out) (fun hS5 => ?_)
        clear hK K hS G4
        have hS := Lib.hid hS5
        clear hS5
        try simp only [Act.put, List.setIfInBounds_toArray, List.set_cons_zero, List.set_cons_succ]
        refine wpAnyH_ready (rs := [11]) (by kernel_rfl) (by simp) (readyH_consL rfl (fun K hK => ?_) AllReadyH.nil)
        refine stepG4 rfl (.tmp 81) (.tmp 82) 51 rfl 4 (.bool false) 1 1 Tryd.underlying51 Tryd.infoBoolT rfl G5.out.rot.rot rfl rfl rfl (by simp [Value.oneCell']) b63.out bbb.out ?_
        intro ao3 cap3 wq6 H6
        have G6 := Lib.hid H6.out.rot
        clear H6
        refine hK.out _ _ (s19 Y9.out X9.out G6.out) (fun hS6 => ?_)
        clear hK K hS G5
        have hS := Lib.hid hS6
        clear hS6
        try simp only [Act.put, List.setIfInBounds_toArray, List.set_cons_zero, List.set_cons_succ]
        refine wpH_takeL (i := 12) (v := ?_) rfl (by kernel_rfl) (by kernel_rfl) (by kernel_rfl) (fun _ _ _ h => h) (Or.inl ⟨by rfl, ?_⟩) hS.out ?_
        rotate_left
        · intro wy hSy
          clear hSy
          go_simp
          try with_reducible rfl
        try simp only [Act.put, List.setIfInBounds_toArray, List.set_cons_zero, List.set_cons_succ]
        refine wpH_takeL (i := 13) (v := ?_) rfl (by kernel_rfl) (by kernel_rfl) (by kernel_rfl) (fun _ _ _ h => h) (Or.inl ⟨by rfl, ?_⟩) hS.out ?_
        rotate_left
        · intro wy hSy
          clear hSy
          go_simp
          try with_reducible rfl
        try simp only [Act.put, List.setIfInBounds_toArray, List.set_cons_zero, List.set_cons_succ]
        refine wpH_takeL (i := 14) (v := ?_) rfl (by kernel_rfl) (by kernel_rfl) (by kernel_rfl) (fun _ _ _ h => h) (Or.inl ⟨by rfl, ?_⟩) hS.out ?_
        rotate_left
        · intro wy hSy
          clear hSy
          go_simp
          try with_reducible rfl
        try simp only [Act.put, List.setIfInBounds_toArray, List.set_cons_zero, List.set_cons_succ]
        refine wpAnyH_done (by kernel_rfl) ?_ _
        exact HQ.out _ _ _ _ _ _ _ _ _ _ _ _ _ _ _ _ _ _ _ G6
    · refine step_bs1G4 rfl 31 3 (.tmp 78) rfl (.int .i64 0) 8 Tryd.underlying31 Tryd.infoIntT G1.out.rot (v := .int .i64 xn) rfl rfl ?_
      intro bb wq2 H2
      have G2 := Lib.hid H2.out.rot.rot
      clear H2
      refine hK.out _ _ (s19 Y9.out X9.out G2.out) (fun hS2 => ?_)
      clear hK K hS G1
      have hS := Lib.hid hS2
      clear hS2
      try simp only [Act.put, List.setIfInBounds_toArray, List.set_cons_zero, List.set_cons_succ]
      refine wpAnyH_ready (rs := [3, 10]) (by kernel_rfl) (by simp) (readyH_consL rfl (fun K hK => ?_) (readyH_consL rfl (fun K hK => ?_) AllReadyH.nil))
      · refine stepG4 rfl (.tmp 72) (.tmp 74) 69 rfl 73 (.agg #[.pointer none, .int .i64 0, .int .i64 0, .int .i64 0, .int .i64 0, .slice none 0 0, .int .i64 0]) 7 72 Tryd.underlying69 Tryd.infoTryT rfl G2.out rfl rfl rfl (by simp [Value.oneCell']) b63.out bby.out ?_
        intro ao1 cap1 wq3 G3
        refine hK.out _ _ (s19 Y9.out X9.out G3.out) (fun hS3 => ?_)
        clear hK K hS G2
        have hS := Lib.hid hS3
        clear hS3
        try simp only [Act.put, List.setIfInBounds_toArray, List.set_cons_zero, List.set_cons_succ]
        refine wpAnyH_ready (rs := [8, 10]) (by kernel_rfl) (by simp) (readyH_consL rfl (fun K hK => ?_) (readyH_consL rfl (fun K hK => ?_) AllReadyH.nil))
        · refine stepG4 rfl (.tmp 76) (.tmp 79) 31 rfl 3 (.int .i64 0) 1 8 Tryd.underlying31 Tryd.infoIntT rfl G3.out.rot rfl rfl rfl (by simp [Value.oneCell']) b63.out bbz.out ?_
          intro ao2 cap2 wq4 H4
          have G4 := Lib.hid H4.out.rot.rot
          clear H4
          refine hK.out _ _ (s19 Y9.out X9.out G4.out) (fun hS4 => ?_)
          clear hK K hS G3
          have hS := Lib.hid hS4
          clear hS4
          try simp only [Act.put, List.setIfInBounds_toArray, List.set_cons_zero, List.set_cons_succ]
          refine wpAnyH_ready (rs := [10]) (by kernel_rfl) (by simp) (readyH_consL rfl (fun K hK => ?_) AllReadyH.nil)
          refine step_bs1G4 rfl 51 4 (.const (.bool false)) rfl (.bool false) 1 Tryd.underlying51 Tryd.infoBoolT G4.out.rot.rot (v := .bool false) rfl rfl ?_
          intro bc wq5 H5
          have G5 := Lib.hid H5.out.rot
          clear H5
          refine hK.out _ _ (s19 Y9.out X9.out G5.out) (fun hS5 => ?_)
          clear hK K hS G4
          have hS := Lib.hid hS5
          clear hS5
          try simp only [Act.put, List.setIfInBounds_toArray, List.set_cons_zero, List.set_cons_succ]
          refine wpAnyH_ready (rs := [11]) (by kernel_rfl) (by simp) (readyH_consL rfl (fun K hK => ?_) AllReadyH.nil)
          refine stepG4 rfl (.tmp 81) (.tmp 82) 51 rfl 4 (.bool false) 1 1 Tryd.underlying51 Tryd.infoBoolT rfl G5.out.rot.rot rfl rfl rfl (by simp [Value.oneCell']) b63.out bbb.out ?_
          intro ao3 cap3 wq6 H6
          have G6 := Lib.hid H6.out.rot
          clear H6
          refine hK.out _ _ (s19 Y9.out X9.out G6.out) (fun hS6 => ?_)
          clear hK K hS G5
          have hS := Lib.hid hS6
          clear hS6
          try simp only [Act.put, List.setIfInBounds_toArray, List.set_cons_zero, List.set_cons_succ]
          refine wpH_takeL (i := 12) (v := ?_) rfl (by kernel_rfl) (by kernel_rfl) (by kernel_rfl) (fun _ _ _ h => h) (Or.inl ⟨by rfl, ?_⟩) hS.out ?_
          rotate_left
          · intro wy hSy
            clear hSy
            go_simp
            try with_reducible rfl
          try simp only [Act.put, List.setIfInBounds_toArray, List.set_cons_zero, List.set_cons_succ]
          refine wpH_takeL (i := 13) (v := ?_) rfl (by kernel_rfl) (by kernel_rfl) (by kernel_rfl) (fun _ _ _ h => h) (Or.inl ⟨by rfl, ?_⟩) hS.out ?_
          rotate_left
          · intro wy hSy
            clear hSy
            go_simp
            try with_reducible rfl
          try simp only [Act.put, List.setIfInBounds_toArray, List.set_cons_zero, List.set_cons_succ]
          refine wpH_takeL (i := 14) (v := ?_) rfl (by kernel_rfl) (by kernel_rfl) (by kernel_rfl) (fun _ _ _ h => h) (Or.inl ⟨by rfl, ?_⟩) hS.out ?_
          rotate_left
          · intro wy hSy
            clear hSy
            go_simp
            try with_reducible rfl
          try simp only [Act.put, List.setIfInBounds_toArray, List.set_cons_zero, List.set_cons_succ]
          refine wpAnyH_done (by kernel_rfl) ?_ _
          exact HQ.out _ _ _ _ _ _ _ _ _ _ _ _ _ _ _ _ _ _ _ G6
        · refine step_bs1G4 rfl 51 4 (.const (.bool false)) rfl (.bool false) 1 Tryd.underlying51 Tryd.infoBoolT G3.out.rot.rot (v := .bool false) rfl rfl ?_
          intro bc wq4 H4
          have G4 := Lib.hid H4.out.rot
          clear H4
          refine hK.out _ _ (s19 Y9.out X9.out G4.out) (fun hS4 => ?_)
          clear hK K hS G3
          have hS := Lib.hid hS4
          clear hS4
          try simp only [Act.put, List.setIfInBounds_toArray, List.set_cons_zero, List.set_cons_succ]
          refine wpAnyH_ready (rs := [8]) (by kernel_rfl) (by simp) (readyH_consL rfl (fun K hK => ?_) AllReadyH.nil)
          refine stepG4 rfl (.tmp 76) (.tmp 79) 31 rfl 3 (.int .i64 0) 1 8 Tryd.underlying31 Tryd.infoIntT rfl G4.out.rot rfl rfl rfl (by simp [Value.oneCell']) b63.out bbz.out ?_
          intro ao2 cap2 wq5 H5
          have G5 := Lib.hid H5.out.rot.rot
          clear H5
          refine hK.out _ _ (s19 Y9.out X9.out G5.out) (fun hS5 => ?_)
          clear hK K hS G4
          have hS := Lib.hid hS5
          clear hS5
          try simp only [Act.put, List.setIfInBounds_toArray, List.set_cons_zero, List.set_cons_succ]
          refine wpAnyH_ready (rs := [11]) (by kernel_rfl) (by simp) (readyH_consL rfl (fun K hK => ?_) AllReadyH.nil)
          refine stepG4 rfl (.tmp 81) (.tmp 82) 51 rfl 4 (.bool false) 1 1 Tryd.underlying51 Tryd.infoBoolT rfl G5.out.rot.rot rfl rfl rfl (by simp [Value.oneCell']) b63.out bbb.out ?_
          intro ao3 cap3 wq6 H6
          have G6 := Lib.hid H6.out.rot
          clear H6
          refine hK.out _ _ (s19 Y9.out X9.out G6.out) (fun hS6 => ?_)
          clear hK K hS G5
          have hS := Lib.hid hS6
          clear hS6
          try simp only [Act.put, List.setIfInBounds_toArray, List.set_cons_zero, List.set_cons_succ]
          refine wpH_takeL (i := 12) (v := ?_) rfl (by kernel_rfl) (by kernel_rfl) (by kernel_rfl) (fun _ _ _ h => h) (Or.inl ⟨by rfl, ?_⟩) hS.out ?_
          rotate_left
          · intro wy hSy
            clear hSy
            go_simp
            try with_reducible rfl
          try simp only [Act.put, List.setIfInBounds_toArray, List.set_cons_zero, List.set_cons_succ]
          refine wpH_takeL (i := 13) (v := ?_) rfl (by kernel_rfl) (by kernel_rfl) (by kernel_rfl) (fun _ _ _ h => h) (Or.inl ⟨by rfl, ?_⟩) hS.out ?_
          rotate_left
          · intro wy hSy
            clear hSy
            go_simp
            try with_reducible rfl
          try simp only [Act.put, List.setIfInBounds_toArray, List.set_cons_zero, List.set_cons_succ]
          refine wpH_takeL (i := 14) (v := ?_) rfl (by kernel_rfl) (by kernel_rfl) (by kernel_rfl) (fun _ _ _ h => h) (Or.inl ⟨by rfl, ?_⟩) hS.out ?_
          rotate_left
          · intro wy hSy
            clear hSy
            go_simp
            try with_reducible rfl
          try simp only [Act.put, List.setIfInBounds_toArray, List.set_cons_zero, List.set_cons_succ]
          refine wpAnyH_done (by kernel_rfl) ?_ _
          exact HQ.out _ _ _ _ _ _ _ _ _ _ _ _ _ _ _ _ _ _ _ G6
      · refine step_bs1G4 rfl 51 4 (.const (.bool false)) rfl (.bool false) 1 Tryd.underlying51 Tryd.infoBoolT G2.out.rot.rot (v := .bool false) rfl rfl ?_
        intro bc wq3 H3
        have G3 := Lib.hid H3.out.rot
        clear H3
        refine hK.out _ _ (s19 Y9.out X9.out G3.out) (fun hS3 => ?_)
        clear hK K hS G2
        have hS := Lib.hid hS3
        clear hS3
        try simp only [Act.put, List.setIfInBounds_toArray, List.set_cons_zero, List.set_cons_succ]
        refine wpAnyH_ready (rs := [3]) (by kernel_rfl) (by simp) (readyH_consL rfl (fun K hK => ?_) AllReadyH.nil)
        refine stepG4 rfl (.tmp 72) (.tmp 74) 69 rfl 73 (.agg #[.pointer none, .int .i64 0, .int .i64 0, .int .i64 0, .int .i64 0, .slice none 0 0, .int .i64 0]) 7 72 Tryd.underlying69 Tryd.infoTryT rfl G3.out rfl rfl rfl (by simp [Value.oneCell']) b63.out bby.out ?_
        intro ao1 cap1 wq4 G4
        refine hK.out _ _ (s19 Y9.out X9.out G4.out) (fun hS4 => ?_)
        clear hK K hS G3
        have hS := Lib.hid hS4
        clear hS4
        try simp only [Act.put, List.setIfInBounds_toArray, List.set_cons_zero, List.set_cons_succ]
        refine wpAnyH_ready (rs := [8]) (by kernel_rfl) (by simp) (readyH_consL rfl (fun K hK => ?_) AllReadyH.nil)
        refine stepG4 rfl (.tmp 76) (.tmp 79) 31 rfl 3 (.int .i64 0) 1 8 Tryd.underlying31 Tryd.infoIntT rfl G4.out.rot rfl rfl rfl (by simp [Value.oneCell']) b63.out bbz.out ?_
        intro ao2 cap2 wq5 H5
        have G5 := Lib.hid H5.out.rot.rot
        clear H5
        refine hK.out _ _ (s19 Y9.out X9.out G5.out) (fun hS5 => ?_)
        clear hK K hS G4
        have hS := Lib.hid hS5
        clear hS5
        try simp only [Act.put, List.setIfInBounds_toArray, List.set_cons_zero, List.set_cons_succ]
        refine wpAnyH_ready (rs := [11]) (by kernel_rfl) (by simp) (readyH_consL rfl (fun K hK => ?_) AllReadyH.nil)
        refine stepG4 rfl (.tmp 81) (.tmp 82) 51 rfl 4 (.bool false) 1 1 Tryd.underlying51 Tryd.infoBoolT rfl G5.out.rot.rot rfl rfl rfl (by simp [Value.oneCell']) b63.out bbb.out ?_
        intro ao3 cap3 wq6 H6
        have G6 := Lib.hid H6.out.rot
        clear H6
        refine hK.out _ _ (s19 Y9.out X9.out G6.out) (fun hS6 => ?_)
        clear hK K hS G5
        have hS := Lib.hid hS6
        clear hS6
        try simp only [Act.put, List.setIfInBounds_toArray, List.set_cons_zero, List.set_cons_succ]
        refine wpH_takeL (i := 12) (v := ?_) rfl (by kernel_rfl) (by kernel_rfl) (by kernel_rfl) (fun _ _ _ h => h) (Or.inl ⟨by rfl, ?_⟩) hS.out ?_
        rotate_left
        · intro wy hSy
          clear hSy
          go_simp
          try with_reducible rfl
        try simp only [Act.put, List.setIfInBounds_toArray, List.set_cons_zero, List.set_cons_succ]
        refine wpH_takeL (i := 13) (v := ?_) rfl (by kernel_rfl) (by kernel_rfl) (by kernel_rfl) (fun _ _ _ h => h) (Or.inl ⟨by rfl, ?_⟩) hS.out ?_
        rotate_left
        · intro wy hSy
          clear hSy
          go_simp
          try with_reducible rfl
        try simp only [Act.put, List.setIfInBounds_toArray, List.set_cons_zero, List.set_cons_succ]
        refine wpH_takeL (i := 14) (v := ?_) rfl (by kernel_rfl) (by kernel_rfl) (by kernel_rfl) (fun _ _ _ h => h) (Or.inl ⟨by rfl, ?_⟩) hS.out ?_
        rotate_left
        · intro wy hSy
          clear hSy
          go_simp
          try with_reducible rfl
        try simp only [Act.put, List.setIfInBounds_toArray, List.set_cons_zero, List.set_cons_succ]
        refine wpAnyH_done (by kernel_rfl) ?_ _
        exact HQ.out _ _ _ _ _ _ _ _ _ _ _ _ _ _ _ _ _ _ _ G6
    · refine step_bs1G4 rfl 51 4 (.const (.bool false)) rfl (.bool false) 1 Tryd.underlying51 Tryd.infoBoolT G1.out.rot.rot (v := .bool false) rfl rfl ?_
      intro bc wq2 H2
      have G2 := Lib.hid H2.out.rot
      clear H2
      refine hK.out _ _ (s19 Y9.out X9.out G2.out) (fun hS2 => ?_)
      clear hK K hS G1
      have hS := Lib.hid hS2
      clear hS2
      try simp only [Act.put, List.setIfInBounds_toArray, List.set_cons_zero, List.set_cons_succ]
      refine wpAnyH_ready (rs := [3, 7]) (by kernel_rfl) (by simp) (readyH_consL rfl (fun K hK => ?_) (readyH_consL rfl (fun K hK => ?_) AllReadyH.nil))
      · refine stepG4 rfl (.tmp 72) (.tmp 74) 69 rfl 73 (.agg #[.pointer none, .int .i64 0, .int .i64 0, .int .i64 0, .int .i64 0, .slice none 0 0, .int .i64 0]) 7 72 Tryd.underlying69 Tryd.infoTryT rfl G2.out rfl rfl rfl (by simp [Value.oneCell']) b63.out bby.out ?_
        intro ao1 cap1 wq3 G3
        refine hK.out _ _ (s19 Y9.out X9.out G3.out) (fun hS3 => ?_)
        clear hK K hS G2
        have hS := Lib.hid hS3
        clear hS3
        try simp only [Act.put, List.setIfInBounds_toArray, List.set_cons_zero, List.set_cons_succ]
        refine wpAnyH_ready (rs := [7]) (by kernel_rfl) (by simp) (readyH_consL rfl (fun K hK => ?_) AllReadyH.nil)
        refine step_bs1G4 rfl 31 3 (.tmp 78) rfl (.int .i64 0) 8 Tryd.underlying31 Tryd.infoIntT G3.out.rot (v := .int .i64 xn) rfl rfl ?_
        intro bb wq4 H4
        have G4 := Lib.hid H4.out.rot.rot
        clear H4
        refine hK.out _ _ (s19 Y9.out X9.out G4.out) (fun hS4 => ?_)
        clear hK K hS G3
        have hS := Lib.hid hS4
        clear hS4
        try simp only [Act.put, List.setIfInBounds_toArray, List.set_cons_zero, List.set_cons_succ]
        refine wpAnyH_ready (rs := [8]) (by kernel_rfl) (by simp) (readyH_consL rfl (fun K hK => ?_) AllReadyH.nil)
        refine stepG4 rfl (.tmp 76) (.tmp 79) 31 rfl 3 (.int .i64 0) 1 8 Tryd.underlying31 Tryd.infoIntT rfl G4.out.rot rfl rfl rfl (by simp [Value.oneCell']) b63.out bbz.out ?_
        intro ao2 cap2 wq5 H5
        have G5 := Lib.hid H5.out.rot.rot
        clear H5
        refine hK.out _ _ (s19 Y9.out X9.out G5.out) (fun hS5 => ?_)
        clear hK K hS G4
        have hS := Lib.hid hS5
        clear hS5
        try simp only [Act.put, List.setIfInBounds_toArray, List.set_cons_zero, List.set_cons_succ]
        refine wpAnyH_ready (rs := [11]) (by kernel_rfl) (by simp) (readyH_consL rfl (fun K hK => ?_) AllReadyH.nil)
        refine stepG4 rfl (.tmp 81) (.tmp 82) 51 rfl 4 (.bool false) 1 1 Tryd.underlying51 Tryd.infoBoolT rfl G5.out.rot.rot rfl rfl rfl (by simp [Value.oneCell']) b63.out bbb.out ?_
        intro ao3 cap3 wq6 H6
        have G6 := Lib.hid H6.out.rot
        clear H6
        refine hK.out _ _ (s19 Y9.out X9.out G6.out) (fun hS6 => ?_)
        clear hK K hS G5
        have hS := Lib.hid hS6
        clear hS6
        try simp only [Act.put, List.setIfInBounds_toArray, List.set_cons_zero, List.set_cons_succ]
        refine wpH_takeL (i := 12) (v := ?_) rfl (by kernel_rfl) (by kernel_rfl) (by kernel_rfl) (fun _ _ _ h => h) (Or.inl ⟨by rfl, ?_⟩) hS.out ?_
        rotate_left
        · intro wy hSy
          clear hSy
          go_simp
          try with_reducible rfl
        try simp only [Act.put, List.setIfInBounds_toArray, List.set_cons_zero, List.set_cons_succ]
        refine wpH_takeL (i := 13) (v := ?_) rfl (by kernel_rfl) (by kernel_rfl) (by kernel_rfl) (fun _ _ _ h => h) (Or.inl ⟨by rfl, ?_⟩) hS.out ?_
        rotate_left
        · intro wy hSy
          clear hSy
          go_simp
          try with_reducible rfl
        try simp only [Act.put, List.setIfInBounds_toArray, List.set_cons_zero, List.set_cons_succ]
        refine wpH_takeL (i := 14) (v := ?_) rfl (by kernel_rfl) (by kernel_rfl) (by kernel_rfl) (fun _ _ _ h => h) (Or.inl ⟨by rfl, ?_⟩) hS.out ?_
        rotate_left
        · intro wy hSy
          clear hSy
          go_simp
          try with_reducible rfl
        try simp only [Act.put, List.setIfInBounds_toArray, List.set_cons_zero, List.set_cons_succ]
        refine wpAnyH_done (by kernel_rfl) ?_ _
        exact HQ.out _ _ _ _ _ _ _ _ _ _ _ _ _ _ _ _ _ _ _ G6
      · refine step_bs1G4 rfl 31 3 (.tmp 78) rfl (.int .i64 0) 8 Tryd.underlying31 Tryd.infoIntT G2.out.rot (v := .int .i64 xn) rfl rfl ?_
        intro bb wq3 H3
        have G3 := Lib.hid H3.out.rot.rot
        clear H3
        refine hK.out _ _ (s19 Y9.out X9.out G3.out) (fun hS3 => ?_)
        clear hK K hS G2
        have hS := Lib.hid hS3
        clear hS3
        try simp only [Act.put, List.setIfInBounds_toArray, List.set_cons_zero, List.set_cons_succ]
        refine wpAnyH_ready (rs := [3]) (by kernel_rfl) (by simp) (readyH_consL rfl (fun K hK => ?_) AllReadyH.nil)
        refine stepG4 rfl (.tmp 72) (.tmp 74) 69 rfl 73 (.agg #[.pointer none, .int .i64 0, .int .i64 0, .int .i64 0, .int .i64 0, .slice none 0 0, .int .i64 0]) 7 72 Tryd.underlying69 Tryd.infoTryT rfl G3.out rfl rfl rfl (by simp [Value.oneCell']) b63.out bby.out ?_
        intro ao1 cap1 wq4 G4
        refine hK.out _ _ (s19 Y9.out X9.out G4.out) (fun hS4 => ?_)
        clear hK K hS G3
        have hS := Lib.hid hS4
        clear hS4
        try simp only [Act.put, List.setIfInBounds_toArray, List.set_cons_zero, List.set_cons_succ]
        refine wpAnyH_ready (rs := [8]) (by kernel_rfl) (by simp) (readyH_consL rfl (fun K hK => ?_) AllReadyH.nil)
        refine stepG4 rfl (.tmp 76) (.tmp 79) 31 rfl 3 (.int .i64 0) 1 8 Tryd.underlying31 Tryd.infoIntT rfl G4.out.rot rfl rfl rfl (by simp [Value.oneCell']) b63.out bbz.out ?_
        intro ao2 cap2 wq5 H5
        have G5 := Lib.hid H5.out.rot.rot
        clear H5
        refine hK.out _ _ (s19 Y9.out X9.out G5.out) (fun hS5 => ?_)
        clear hK K hS G4
        have hS := Lib.hid hS5
        clear hS5
        try simp only [Act.put, List.setIfInBounds_toArray, List.set_cons_zero, List.set_cons_succ]
        refine wpAnyH_ready (rs := [11]) (by kernel_rfl) (by simp) (readyH_consL rfl (fun K hK => ?_) AllReadyH.nil)
        refine stepG4 rfl (.tmp 81) (.tmp 82) 51 rfl 4 (.bool false) 1 1 Tryd.underlying51 Tryd.infoBoolT rfl G5.out.rot.rot rfl rfl rfl (by simp [Value.oneCell']) b63.out bbb.out ?_
        intro ao3 cap3 wq6 H6
        have G6 := Lib.hid H6.out.rot
        clear H6
        refine hK.out _ _ (s19 Y9.out X9.out G6.out) (fun hS6 => ?_)
        clear hK K hS G5
        have hS := Lib.hid hS6
        clear hS6
        try simp only [Act.put, List.setIfInBounds_toArray, List.set_cons_zero, List.set_cons_succ]
        refine wpH_takeL (i := 12) (v := ?_) rfl (by kernel_rfl) (by kernel_rfl) (by kernel_rfl) (fun _ _ _ h => h) (Or.inl ⟨by rfl, ?_⟩) hS.out ?_
        rotate_left
        · intro wy hSy
          clear hSy
          go_simp
          try with_reducible rfl
        try simp only [Act.put, List.setIfInBounds_toArray, List.set_cons_zero, List.set_cons_succ]
        refine wpH_takeL (i := 13) (v := ?_) rfl (by kernel_rfl) (by kernel_rfl) (by kernel_rfl) (fun _ _ _ h => h) (Or.inl ⟨by rfl, ?_⟩) hS.out ?_
        rotate_left
        · intro wy hSy
          clear hSy
          go_simp
          try with_reducible rfl
        try simp only [Act.put, List.setIfInBounds_toArray, List.set_cons_zero, List.set_cons_succ]
        refine wpH_takeL (i := 14) (v := ?_) rfl (by kernel_rfl) (by kernel_rfl) (by kernel_rfl) (fun _ _ _ h => h) (Or.inl ⟨by rfl, ?_⟩) hS.out ?_
        rotate_left
        · intro wy hSy
          clear hSy
          go_simp
          try with_reducible rfl
        try simp only [Act.put, List.setIfInBounds_toArray, List.set_cons_zero, List.set_cons_succ]
        refine wpAnyH_done (by kernel_rfl) ?_ _
        exact HQ.out _ _ _ _ _ _ _ _ _ _ _ _ _ _ _ _ _ _ _ G6
  · refine step_bs1G4 rfl 31 3 (.tmp 78) rfl (.int .i64 0) 8 Tryd.underlying31 Tryd.infoIntT G0.out.rot (v := .int .i64 xn) rfl rfl ?_
    intro bb wq1 H1
    have G1 := Lib.hid H1.out.rot.rot
    clear H1
    refine hK.out _ _ (s19 Y9.out X9.out G1.out) (fun hS1 => ?_)
    clear hK K hS G0
    have hS := Lib.hid hS1
    clear hS1
    try simp only [Act.put, List.setIfInBounds_toArray, List.set_cons_zero, List.set_cons_succ]
    refine wpAnyH_ready (rs := [2, 10]) (by kernel_rfl) (by simp) (readyH_consL rfl (fun K hK => ?_) (readyH_consL rfl (fun K hK => ?_) AllReadyH.nil))
    · refine step_bs7G4 rfl 69 73 (.tmp 73) rfl (.agg #[.pointer none, .int .i64 0, .int .i64 0, .int .i64 0, .int .i64 0, .slice none 0 0, .int .i64 0]) 72 Tryd.underlying69 Tryd.infoTryT G1.out rfl ?_
      intro ba wq2 G2
      refine hK.out _ _ (s19 Y9.out X9.out G2.out) (fun hS2 => ?_)
      clear hK K hS G1
      have hS := Lib.hid hS2
      clear hS2
      try simp only [Act.put, List.setIfInBounds_toArray, List.set_cons_zero, List.set_cons_succ]
      refine wpAnyH_ready (rs := [3, 10]) (by kernel_rfl) (by simp) (readyH_consL rfl (fun K hK => ?_) (readyH_consL rfl (fun K hK => ?_) AllReadyH.nil))
      · refine stepG4 rfl (.tmp 72) (.tmp 74) 69 rfl 73 (.agg #[.pointer none, .int .i64 0, .int .i64 0, .int .i64 0, .int .i64 0, .slice none 0 0, .int .i64 0]) 7 72 Tryd.underlying69 Tryd.infoTryT rfl G2.out rfl rfl rfl (by simp [Value.oneCell']) b63.out bby.out ?_
        intro ao1 cap1 wq3 G3
        refine hK.out _ _ (s19 Y9.out X9.out G3.out) (fun hS3 => ?_)
        clear hK K hS G2
        have hS := Lib.hid hS3
        clear hS3
        try simp only [Act.put, List.setIfInBounds_toArray, List.set_cons_zero, List.set_cons_succ]
        refine wpAnyH_ready (rs := [8, 10]) (by kernel_rfl) (by simp) (readyH_consL rfl (fun K hK => ?_) (readyH_consL rfl (fun K hK => ?_) AllReadyH.nil))
        · refine stepG4 rfl (.tmp 76) (.tmp 79) 31 rfl 3 (.int .i64 0) 1 8 Tryd.underlying31 Tryd.infoIntT rfl G3.out.rot rfl rfl rfl (by simp [Value.oneCell']) b63.out bbz.out ?_
          intro ao2 cap2 wq4 H4
          have G4 := Lib.hid H4.out.rot.rot
          clear H4
          refine hK.out _ _ (s19 Y9.out X9.out G4.out) (fun hS4 => ?_)
          clear hK K hS G3
          have hS := Lib.hid hS4
          clear hS4
          try simp only [Act.put, List.setIfInBounds_toArray, List.set_cons_zero, List.set_cons_succ]
          refine wpAnyH_ready (rs := [10]) (by kernel_rfl) (by simp) (readyH_consL rfl (fun K hK => ?_) AllReadyH.nil)
          refine step_bs1G4 rfl 51 4 (.const (.bool false)) rfl (.bool false) 1 Tryd.underlying51 Tryd.infoBoolT G4.out.rot.rot (v := .bool false) rfl rfl ?_
          intro bc wq5 H5
          have G5 := Lib.hid H5.out.rot
          clear H5
          refine hK.out _ _ (s19 Y9.out X9.out G5.out) (fun hS5 => ?_)
          clear hK K hS G4
          have hS := Lib.hid hS5
          clear hS5
          try simp only [Act.put, List.setIfInBounds_toArray, List.set_cons_zero, List.set_cons_succ]
          refine wpAnyH_ready (rs := [11]) (by kernel_rfl) (by simp) (readyH_consL rfl (fun K hK => ?_) AllReadyH.nil)
          refine stepG4 rfl (.tmp 81) (.tmp 82) 51 rfl 4 (.bool false) 1 1 Tryd.underlying51 Tryd.infoBoolT rfl G5.out.rot.rot rfl rfl rfl (by simp [Value.oneCell']) b63.out bbb.out ?_
          intro ao3 cap3 wq6 H6
          have G6 := Lib.hid H6.out.rot
          clear H6
          refine hK.out _ _ (s19 Y9.out X9.out G6.out) (fun hS6 => ?_)
          clear hK K hS G5
          have hS := Lib.hid hS6
          clear hS6
          try simp only [Act.put, List.setIfInBounds_toArray, List.set_cons_zero, List.set_cons_succ]
          refine wpH_takeL (i := 12) (v := ?_) rfl (by kernel_rfl) (by kernel_rfl) (by kernel_rfl) (fun _ _ _ h => h) (Or.inl ⟨by rfl, ?_⟩) hS.out ?_
          rotate_left
          · intro wy hSy
            clear hSy
            go_simp
            try with_reducible rfl
          try simp only [Act.put, List.setIfInBounds_toArray, List.set_cons_zero, List.set_cons_succ]
          refine wpH_takeL (i := 13) (v := ?_) rfl (by kernel_rfl) (by kernel_rfl) (by kernel_rfl) (fun _ _ _ h => h) (Or.inl ⟨by rfl, ?_⟩) hS.out ?_
          rotate_left
          · intro wy hSy
            clear hSy
            go_simp
            try with_reducible rfl
          try simp only [Act.put, List.setIfInBounds_toArray, List.set_cons_zero, List.set_cons_succ]
          refine wpH_takeL (i := 14) (v := ?_) rfl (by kernel_rfl) (by kernel_rfl) (by kernel_rfl) (fun _ _ _ h => h) (Or.inl ⟨by rfl, ?_⟩) hS.out ?_
          rotate_left
          · intro wy hSy
            clear hSy
            go_simp
            try with_reducible rfl
          try simp only [Act.put, List.setIfInBounds_toArray, List.set_cons_zero, List.set_cons_succ]
          refine wpAnyH_done (by kernel_rfl) ?_ _
          exact HQ.out _ _ _ _ _ _ _ _ _ _ _ _ _ _ _ _ _ _ _ G6
        · refine step_bs1G4 rfl 51 4 (.const (.bool false)) rfl (.bool false) 1 Tryd.underlying51 Tryd.infoBoolT G3.out.rot.rot (v := .bool false) rfl rfl ?_
          intro bc wq4 H4
          have G4 := Lib.hid H4.out.rot
          clear H4
          refine hK.out _ _ (s19 Y9.out X9.out G4.out) (fun hS4 => ?_)
          clear hK K hS G3
          have hS := Lib.hid hS4
          clear hS4
          try simp only [Act.put, List.setIfInBounds_toArray, List.set_cons_zero, List.set_cons_succ]
          refine wpAnyH_ready (rs := [8]) (by kernel_rfl) (by simp) (readyH_consL rfl (fun K hK => ?_) AllReadyH.nil)
          refine stepG4 rfl (.tmp 76) (.tmp 79) 31 rfl 3 (.int .i64 0) 1 8 Tryd.underlying31 Tryd.infoIntT rfl G4.out.rot rfl rfl rfl (by simp [Value.oneCell']) b63.out bbz.out ?_
          intro ao2 cap2 wq5 H5
          have G5 := Lib.hid H5.out.rot.rot
          clear H5
          refine hK.out _ _ (s19 Y9.out X9.out G5.out) (fun hS5 => ?_)
          clear hK K hS G4
          have hS := Lib.hid hS5
          clear hS5
          try simp only [Act.put, List.setIfInBounds_toArray, List.set_cons_zero, List.set_cons_succ]
          refine wpAnyH_ready (rs := [11]) (by kernel_rfl) (by simp) (readyH_consL rfl (fun K hK => ?_) AllReadyH.nil)
          refine stepG4 rfl (.tmp 81) (.tmp 82) 51 rfl 4 (.bool false) 1 1 Tryd.underlying51 Tryd.infoBoolT rfl G5.out.rot.rot rfl rfl rfl (by simp [Value.oneCell']) b63.out bbb.out ?_
          intro ao3 cap3 wq6 H6
          have G6 := Lib.hid H6.out.rot
          clear H6
          refine hK.out _ _ (s19 Y9.out X9.out G6.out) (fun hS6 => ?_)
          clear hK K hS G5
          have hS := Lib.hid hS6
          clear hS6
          try simp only [Act.put, List.setIfInBounds_toArray, List.set_cons_zero, List.set_cons_succ]
          refine wpH_takeL (i := 12) (v := ?_) rfl (by kernel_rfl) (by kernel_rfl) (by kernel_rfl) (fun _ _ _ h => h) (Or.inl ⟨by rfl, ?_⟩) hS.out ?_
          rotate_left
          · intro wy hSy
            clear hSy
            go_simp
            try with_reducible rfl
          try simp only [Act.put, List.setIfInBounds_toArray, List.set_cons_zero, List.set_cons_succ]
          refine wpH_takeL (i := 13) (v := ?_) rfl (by kernel_rfl) (by kernel_rfl) (by kernel_rfl) (fun _ _ _ h => h) (Or.inl ⟨by rfl, ?_⟩) hS.out ?_
          rotate_left
          · intro wy hSy
            clear hSy
            go_simp
            try with_reducible rfl
          try simp only [Act.put, List.setIfInBounds_toArray, List.set_cons_zero, List.set_cons_succ]
          refine wpH_takeL (i := 14) (v := ?_) rfl (by kernel_rfl) (by kernel_rfl) (by kernel_rfl) (fun _ _ _ h => h) (Or.inl ⟨by rfl, ?_⟩) hS.out ?_
          rotate_left
          · intro wy hSy
            clear hSy
            go_simp
            try with_reducible rfl
          try simp only [Act.put, List.setIfInBounds_toArray, List.set_cons_zero, List.set_cons_succ]
          refine wpAnyH_done (by kernel_rfl) ?_ _
          exact HQ.out _ _ _ _ _ _ _ _ _ _ _ _ _ _ _ _ _ _ _ G6
      · refine step_bs1G4 rfl 51 4 (.const (.bool false)) rfl (.bool false) 1 Tryd.underlying51 Tryd.infoBoolT G2.out.rot.rot (v := .bool false) rfl rfl ?_
        intro bc wq3 H3
        have G3 := Lib.hid H3.out.rot
        clear H3
        refine hK.out _ _ (s19 Y9.out X9.out G3.out) (fun hS3 => ?_)
        clear hK K hS G2
        have hS := Lib.hid hS3
        clear hS3
        try simp only [Act.put, List.setIfInBounds_toArray, List.set_cons_zero, List.set_cons_succ]
        refine wpAnyH_ready (rs := [3]) (by kernel_rfl) (by simp) (readyH_consL rfl (fun K hK => ?_) AllReadyH.nil)
        refine stepG4 rfl (.tmp 72) (.tmp 74) 69 rfl 73 (.agg #[.pointer none, .int .i64 0, .int .i64 0, .int .i64 0, .int .i64 0, .slice none 0 0, .int .i64 0]) 7 72 Tryd.underlying69 Tryd.infoTryT rfl G3.out rfl rfl rfl (by simp [Value.oneCell']) b63.out bby.out ?_
        intro ao1 cap1 wq4 G4
        refine hK.out _ _ (s19 Y9.out X9.out G4.out) (fun hS4 => ?_)
        clear hK K hS G3
        have hS := Lib.hid hS4
        clear hS4
        try simp only [Act.put, List.setIfInBounds_toArray, List.set_cons_zero, List.set_cons_succ]
        refine wpAnyH_ready (rs := [8]) (by kernel_rfl) (by simp) (readyH_consL rfl (fun K hK => ?_) AllReadyH.nil)
        refine stepG4 rfl (.tmp 76) (.tmp 79) 31 rfl 3 (.int .i64 0) 1 8 Tryd.underlying31 Tryd.infoIntT rfl G4.out.rot rfl rfl rfl (by simp [Value.oneCell']) b63.out bbz.out ?_
        intro ao2 cap2 wq5 H5
        have G5 := Lib.hid H5.out.rot.rot
        clear H5
        refine hK.out _ _ (s19 Y9.out X9.out G5.out) (fun hS5 => ?_)
        clear hK K hS G4
        have hS := Lib.hid hS5
        clear hS5
        try simp only [Act.put, List.setIfInBounds_toArray, List.set_cons_zero, List.set_cons_succ]
        refine wpAnyH_ready (rs := [11]) (by kernel_rfl) (by simp) (readyH_consL rfl (fun K hK => ?_) AllReadyH.nil)
        refine stepG4 rfl (.tmp 81) (.tmp 82) 51 rfl 4 (.bool false) 1 1 Tryd.underlying51 Tryd.infoBoolT rfl G5.out.rot.rot rfl rfl rfl (by simp [Value.oneCell']) b63.out bbb.out ?_
        intro ao3 cap3 wq6 H6
        have G6 := Lib.hid H6.out.rot
        clear H6
        refine hK.out _ _ (s19 Y9.out X9.out G6.out) (fun hS6 => ?_)
        clear hK K hS G5
        have hS := Lib.hid hS6
        clear hS6
        try simp only [Act.put, List.setIfInBounds_toArray, List.set_cons_zero, List.set_cons_succ]
        refine wpH_takeL (i := 12) (v := ?_) rfl (by kernel_rfl) (by kernel_rfl) (by kernel_rfl) (fun _ _ _ h => h) (Or.inl ⟨by rfl, ?_⟩) hS.out ?_
        rotate_left
        · intro wy hSy
          clear hSy
          go_simp
          try with_reducible rfl
        try simp only [Act.put, List.setIfInBounds_toArray, List.set_cons_zero, List.set_cons_succ]
        refine wpH_takeL (i := 13) (v := ?_) rfl (by kernel_rfl) (by kernel_rfl) (by kernel_rfl) (fun _ _ _ h => h) (Or.inl ⟨by rfl, ?_⟩) hS.out ?_
        rotate_left
        · intro wy hSy
          clear hSy
          go_simp
          try with_reducible rfl
        try simp only [Act.put, List.setIfInBounds_toArray, List.set_cons_zero, List.set_cons_succ]
        refine wpH_takeL (i := 14) (v := ?_) rfl (by kernel_rfl) (by kernel_rfl) (by kernel_rfl) (fun _ _ _ h => h) (Or.inl ⟨by rfl, ?_⟩) hS.out ?_
        rotate_left
        · intro wy hSy
          clear hSy
          go_simp
          try with_reducible rfl
        try simp only [Act.put, List.setIfInBounds_toArray, List.set_cons_zero, List.set_cons_succ]
        refine wpAnyH_done (by kernel_rfl) ?_ _
        exact HQ.out _ _ _ _ _ _ _ _ _ _ _ _ _ _ _ _ _ _ _ G6
    · refine step_bs1G4 rfl 51 4 (.const (.bool false)) rfl (.bool false) 1 Tryd.underlying51 Tryd.infoBoolT G1.out.rot.rot (v := .bool false) rfl rfl ?_
      intro bc wq2 H2
      have G2 := Lib.hid H2.out.rot
      clear H2
      refine hK.out _ _ (s19 Y9.out X9.out G2.out) (fun hS2 => ?_)
      clear hK K hS G1
      have hS := Lib.hid hS2
      clear hS2
      try simp only [Act.put, List.setIfInBounds_toArray, List.set_cons_zero, List.set_cons_succ]
      refine wpAnyH_ready (rs := [2]) (by kernel_rfl) (by simp) (readyH_consL rfl (fun K hK => ?_) AllReadyH.nil)
      refine step_bs7G4 rfl 69 73 (.tmp 73) rfl (.agg #[.pointer none, .int .i64 0, .int .i64 0, .int .i64 0, .int .i64 0, .slice none 0 0, .int .i64 0]) 72 Tryd.underlying69 Tryd.infoTryT G2.out rfl ?_
      intro ba wq3 G3
      refine hK.out _ _ (s19 Y9.out X9.out G3.out) (fun hS3 => ?_)
      clear hK K hS G2
      have hS := Lib.hid hS3
      clear hS3
      try simp only [Act.put, List.setIfInBounds_toArray, List.set_cons_zero, List.set_cons_succ]
      refine wpAnyH_ready (rs := [3]) (by kernel_rfl) (by simp) (readyH_consL rfl (fun K hK => ?_) AllReadyH.nil)
      refine stepG4 rfl (.tmp 72) (.tmp 74) 69 rfl 73 (.agg #[.pointer none, .int .i64 0, .int .i64 0, .int .i64 0, .int .i64 0, .slice none 0 0, .int .i64 0]) 7 72 Tryd.underlying69 Tryd.infoTryT rfl G3.out rfl rfl rfl (by simp [Value.oneCell']) b63.out bby.out ?_
      intro ao1 cap1 wq4 G4
      refine hK.out _ _ (s19 Y9.out X9.out G4.out) (fun hS4 => ?_)
      clear hK K hS G3
      have hS := Lib.hid hS4
      clear hS4
      try simp only [Act.put, List.setIfInBounds_toArray, List.set_cons_zero, List.set_cons_succ]
      refine wpAnyH_ready (rs := [8]) (by kernel_rfl) (by simp) (readyH_consL rfl (fun K hK => ?_) AllReadyH.nil)
      refine stepG4 rfl (.tmp 76) (.tmp 79) 31 rfl 3 (.int .i64 0) 1 8 Tryd.underlying31 Tryd.infoIntT rfl G4.out.rot rfl rfl rfl (by simp [Value.oneCell']) b63.out bbz.out ?_
      intro ao2 cap2 wq5 H5
      have G5 := Lib.hid H5.out.rot.rot
      clear H5
      refine hK.out _ _ (s19 Y9.out X9.out G5.out) (fun hS5 => ?_)
      clear hK K hS G4
      have hS := Lib.hid hS5
      clear hS5
      try simp only [Act.put, List.setIfInBounds_toArray, List.set_cons_zero, List.set_cons_succ]
      refine wpAnyH_ready (rs := [11]) (by kernel_rfl) (by simp) (readyH_consL rfl (fun K hK => ?_) AllReadyH.nil)
      refine stepG4 rfl (.tmp 81) (.tmp 82) 51 rfl 4 (.bool false) 1 1 Tryd.underlying51 Tryd.infoBoolT rfl G5.out.rot.rot rfl rfl rfl (by simp [Value.oneCell']) b63.out bbb.out ?_
      intro ao3 cap3 wq6 H6
      have G6 := Lib.hid H6.out.rot
      clear H6
      refine hK.out _ _ (s19 Y9.out X9.out G6.out) (fun hS6 => ?_)
      clear hK K hS G5
      have hS := Lib.hid hS6
      clear hS6
      try simp only [Act.put, List.setIfInBounds_toArray, List.set_cons_zero, List.set_cons_succ]
      refine wpH_takeL (i := 12) (v := ?_) rfl (by kernel_rfl) (by kernel_rfl) (by kernel_rfl) (fun _ _ _ h => h) (Or.inl ⟨by rfl, ?_⟩) hS.out ?_
      rotate_left
      · intro wy hSy
        clear hSy
        go_simp
        try with_reducible rfl
      try simp only [Act.put, List.setIfInBounds_toArray, List.set_cons_zero, List.set_cons_succ]
      refine wpH_takeL (i := 13) (v := ?_) rfl (by kernel_rfl) (by kernel_rfl) (by kernel_rfl) (fun _ _ _ h => h) (Or.inl ⟨by rfl, ?_⟩) hS.out ?_
      rotate_left
      · intro wy hSy
        clear hSy
        go_simp
        try with_reducible rfl
      try simp only [Act.put, List.setIfInBounds_toArray, List.set_cons_zero, List.set_cons_succ]
      refine wpH_takeL (i := 14) (v := ?_) rfl (by kernel_rfl) (by kernel_rfl) (by kernel_rfl) (fun _ _ _ h => h) (Or.inl ⟨by rfl, ?_⟩) hS.out ?_
      rotate_left
      · intro wy hSy
        clear hSy
        go_simp
        try with_reducible rfl
      try simp only [Act.put, List.setIfInBounds_toArray, List.set_cons_zero, List.set_cons_succ]
      refine wpAnyH_done (by kernel_rfl) ?_ _
      exact HQ.out _ _ _ _ _ _ _ _ _ _ _ _ _ _ _ _ _ _ _ G6
  · refine step_bs1G4 rfl 51 4 (.const (.bool false)) rfl (.bool false) 1 Tryd.underlying51 Tryd.infoBoolT G0.out.rot.rot (v := .bool false) rfl rfl ?_
    intro bc wq1 H1
    have G1 := Lib.hid H1.out.rot
    clear H1
    refine hK.out _ _ (s19 Y9.out X9.out G1.out) (fun hS1 => ?_)
    clear hK K hS G0
    have hS := Lib.hid hS1
    clear hS1
    try simp only [Act.put, List.setIfInBounds_toArray, List.set_cons_zero, List.set_cons_succ]
    refine wpAnyH_ready (rs := [2, 7]) (by kernel_rfl) (by simp) (readyH_consL rfl (fun K hK => ?_) (readyH_consL rfl (fun K hK => ?_) AllReadyH.nil))
    · refine step_bs7G4 rfl 69 73 (.tmp 73) rfl (.agg #[.pointer none, .int .i64 0, .int .i64 0, .int .i64 0, .int .i64 0, .slice none 0 0, .int .i64 0]) 72 Tryd.underlying69 Tryd.infoTryT G1.out rfl ?_
      intro ba wq2 G2
      refine hK.out _ _ (s19 Y9.out X9.out G2.out) (fun hS2 => ?_)
      clear hK K hS G1
      have hS := Lib.hid hS2
      clear hS2
      try simp only [Act.put, List.setIfInBounds_toArray, List.set_cons_zero, List.set_cons_succ]
      refine wpAnyH_ready (rs := [3, 7]) (by kernel_rfl) (by simp) (readyH_consL rfl (fun K hK => ?_) (readyH_consL rfl (fun K hK => ?_) AllReadyH.nil))
      · refine stepG4 rfl (.tmp 72) (.tmp 74) 69 rfl 73 (.agg #[.pointer none, .int .i64 0, .int .i64 0, .int .i64 0, .int .i64 0, .slice none 0 0, .int .i64 0]) 7 72 Tryd.underlying69 Tryd.infoTryT rfl G2.out rfl rfl rfl (by simp [Value.oneCell']) b63.out bby.out ?_
        intro ao1 cap1 wq3 G3
        refine hK.out _ _ (s19 Y9.out X9.out G3.out) (fun hS3 => ?_)
        clear hK K hS G2
        have hS := Lib.hid hS3
        clear hS3
        try simp only [Act.put, List.setIfInBounds_toArray, List.set_cons_zero, List.set_cons_succ]
        refine wpAnyH_ready (rs := [7]) (by kernel_rfl) (by simp) (readyH_consL rfl (fun K hK => ?_) AllReadyH.nil)
        refine step_bs1G4 rfl 31 3 (.tmp 78) rfl (.int .i64 0) 8 Tryd.underlying31 Tryd.infoIntT G3.out.rot (v := .int .i64 xn) rfl rfl ?_
        intro bb wq4 H4
        have G4 := Lib.hid H4.out.rot.rot
        clear H4
        refine hK.out _ _ (s19 Y9.out X9.out G4.out) (fun hS4 => ?_)
        clear hK K hS G3
        have hS := Lib.hid hS4
        clear hS4
        try simp only [Act.put, List.setIfInBounds_toArray, List.set_cons_zero, List.set_cons_succ]
        refine wpAnyH_ready (rs := [8]) (by kernel_rfl) (by simp) (readyH_consL rfl (fun K hK => ?_) AllReadyH.nil)
        refine stepG4 rfl (.tmp 76) (.tmp 79) 31 rfl 3 (.int .i64 0) 1 8 Tryd.underlying31 Tryd.infoIntT rfl G4.out.rot rfl rfl rfl (by simp [Value.oneCell']) b63.out bbz.out ?_
        intro ao2 cap2 wq5 H5
        have G5 := Lib.hid H5.out.rot.rot
        clear H5
        refine hK.out _ _ (s19 Y9.out X9.out G5.out) (fun hS5 => ?_)
        clear hK K hS G4
        have hS := Lib.hid hS5
        clear hS5
        try simp only [Act.put, List.setIfInBounds_toArray, List.set_cons_zero, List.set_cons_succ]
        refine wpAnyH_ready (rs := [11]) (by kernel_rfl) (by simp) (readyH_consL rfl (fun K hK => ?_) AllReadyH.nil)
        refine stepG4 rfl (.tmp 81) (.tmp 82) 51 rfl 4 (.bool false) 1 1 Tryd.underlying51 Tryd.infoBoolT rfl G5.out.rot.rot rfl rfl rfl (by simp [Value.oneCell']) b63.out bbb.out ?_
        intro ao3 cap3 wq6 H6
        have G6 := Lib.hid H6.out.rot
        clear H6
        refine hK.out _ _ (s19 Y9.out X9.out G6.out) (fun hS6 => ?_)
        clear hK K hS G5
        have hS := Lib.hid hS6
        clear hS6
        try simp only [Act.put, List.setIfInBounds_toArray, List.set_cons_zero, List.set_cons_succ]
        refine wpH_takeL (i := 12) (v := ?_) rfl (by kernel_rfl) (by kernel_rfl) (by kernel_rfl) (fun _ _ _ h => h) (Or.inl ⟨by rfl, ?_⟩) hS.out ?_
        rotate_left
        · intro wy hSy
          clear hSy
          go_simp
          try with_reducible rfl
        try simp only [Act.put, List.setIfInBounds_toArray, List.set_cons_zero, List.set_cons_succ]
        refine wpH_takeL (i := 13) (v := ?_) rfl (by kernel_rfl) (by kernel_rfl) (by kernel_rfl) (fun _ _ _ h => h) (Or.inl ⟨by rfl, ?_⟩) hS.out ?_
        rotate_left
        · intro wy hSy
          clear hSy
          go_simp
          try with_reducible rfl
        try simp only [Act.put, List.setIfInBounds_toArray, List.set_cons_zero, List.set_cons_succ]
        refine wpH_takeL (i := 14) (v := ?_) rfl (by kernel_rfl) (by kernel_rfl) (by kernel_rfl) (fun _ _ _ h => h) (Or.inl ⟨by rfl, ?_⟩) hS.out ?_
        rotate_left
        · intro wy hSy
          clear hSy
          go_simp
          try with_reducible rfl
        try simp only [Act.put, List.setIfInBounds_toArray, List.set_cons_zero, List.set_cons_succ]
        refine wpAnyH_done (by kernel_rfl) ?_ _
        exact HQ.out _ _ _ _ _ _ _ _ _ _ _ _ _ _ _ _ _ _ _ G6
      · refine step_bs1G4 rfl 31 3 (.tmp 78) rfl (.int .i64 0) 8 Tryd.underlying31 Tryd.infoIntT G2.out.rot (v := .int .i64 xn) rfl rfl ?_
        intro bb wq3 H3
        have G3 := Lib.hid H3.out.rot.rot
        clear H3
        refine hK.out _ _ (s19 Y9.out X9.out G3.out) (fun hS3 => ?_)
        clear hK K hS G2
        have hS := Lib.hid hS3
        clear hS3
        try simp only [Act.put, List.setIfInBounds_toArray, List.set_cons_zero, List.set_cons_succ]
        refine wpAnyH_ready (rs := [3]) (by kernel_rfl) (by simp) (readyH_consL rfl (fun K hK => ?_) AllReadyH.nil)
        refine stepG4 rfl (.tmp 72) (.tmp 74) 69 rfl 73 (.agg #[.pointer none, .int .i64 0, .int .i64 0, .int .i64 0, .int .i64 0, .slice none 0 0, .int .i64 0]) 7 72 Tryd.underlying69 Tryd.infoTryT rfl G3.out rfl rfl rfl (by simp [Value.oneCell']) b63.out bby.out ?_
        intro ao1 cap1 wq4 G4
        refine hK.out _ _ (s19 Y9.out X9.out G4.out) (fun hS4 => ?_)
        clear hK K hS G3
        have hS := Lib.hid hS4
        clear hS4
        try simp only [Act.put, List.setIfInBounds_toArray, List.set_cons_zero, List.set_cons_succ]
        refine wpAnyH_ready (rs := [8]) (by kernel_rfl) (by simp) (readyH_consL rfl (fun K hK => ?_) AllReadyH.nil)
        refine stepG4 rfl (.tmp 76) (.tmp 79) 31 rfl 3 (.int .i64 0) 1 8 Tryd.underlying31 Tryd.infoIntT rfl G4.out.rot rfl rfl rfl (by simp [Value.oneCell']) b63.out bbz.out ?_
        intro ao2 cap2 wq5 H5
        have G5 := Lib.hid H5.out.rot.rot
        clear H5
        refine hK.out _ _ (s19 Y9.out X9.out G5.out) (fun hS5 => ?_)
        clear hK K hS G4
        have hS := Lib.hid hS5
        clear hS5
        try simp only [Act.put, List.setIfInBounds_toArray, List.set_cons_zero, List.set_cons_succ]
        refine wpAnyH_ready (rs := [11]) (by kernel_rfl) (by simp) (readyH_consL rfl (fun K hK => ?_) AllReadyH.nil)
        refine stepG4 rfl (.tmp 81) (.tmp 82) 51 rfl 4 (.bool false) 1 1 Tryd.underlying51 Tryd.infoBoolT rfl G5.out.rot.rot rfl rfl rfl (by simp [Value.oneCell']) b63.out bbb.out ?_
        intro ao3 cap3 wq6 H6
        have G6 := Lib.hid H6.out.rot
        clear H6
        refine hK.out _ _ (s19 Y9.out X9.out G6.out) (fun hS6 => ?_)
        clear hK K hS G5
        have hS := Lib.hid hS6
        clear hS6
        try simp only [Act.put, List.setIfInBounds_toArray, List.set_cons_zero, List.set_cons_succ]
        refine wpH_takeL (i := 12) (v := ?_) rfl (by kernel_rfl) (by kernel_rfl) (by kernel_rfl) (fun _ _ _ h => h) (Or.inl ⟨by rfl, ?_⟩) hS.out ?_
        rotate_left
        · intro wy hSy
          clear hSy
          go_simp
          try with_reducible rfl
        try simp only [Act.put, List.setIfInBounds_toArray, List.set_cons_zero, List.set_cons_succ]
        refine wpH_takeL (i := 13) (v := ?_) rfl (by kernel_rfl) (by kernel_rfl) (by kernel_rfl) (fun _ _ _ h => h) (Or.inl ⟨by rfl, ?_⟩) hS.out ?_
        rotate_left
        · intro wy hSy
          clear hSy
          go_simp
          try with_reducible rfl
        try simp only [Act.put, List.setIfInBounds_toArray, List.set_cons_zero, List.set_cons_succ]
        refine wpH_takeL (i := 14) (v := ?_) rfl (by kernel_rfl) (by kernel_rfl) (by kernel_rfl) (fun _ _ _ h => h) (Or.inl ⟨by rfl, ?_⟩) hS.out ?_
        rotate_left
        · intro wy hSy
          clear hSy
          go_simp
          try with_reducible rfl
        try simp only [Act.put, List.setIfInBounds_toArray, List.set_cons_zero, List.set_cons_succ]
        refine wpAnyH_done (by kernel_rfl) ?_ _
        exact HQ.out _ _ _ _ _ _ _ _ _ _ _ _ _ _ _ _ _ _ _ G6
    · refine step_bs1G4 rfl 31 3 (.tmp 78) rfl (.int .i64 0) 8 Tryd.underlying31 Tryd.infoIntT G1.out.rot (v := .int .i64 xn) rfl rfl ?_
      intro bb wq2 H2
      have G2 := Lib.hid H2.out.rot.rot
      clear H2
      refine hK.out _ _ (s19 Y9.out X9.out G2.out) (fun hS2 => ?_)
      clear hK K hS G1
      have hS := Lib.hid hS2
      clear hS2
      try simp only [Act.put, List.setIfInBounds_toArray, List.set_cons_zero, List.set_cons_succ]
      refine wpAnyH_ready (rs := [2]) (by kernel_rfl) (by simp) (readyH_consL rfl (fun K hK => ?_) AllReadyH.nil)
      refine step_bs7G4 rfl 69 73 (.tmp 73) rfl (.agg #[.pointer none, .int .i64 0, .int .i64 0, .int .i64 0, .int .i64 0, .slice none 0 0, .int .i64 0]) 72 Tryd.underlying69 Tryd.infoTryT G2.out rfl ?_
      intro ba wq3 G3
      refine hK.out _ _ (s19 Y9.out X9.out G3.out) (fun hS3 => ?_)
      clear hK K hS G2
      have hS := Lib.hid hS3
      clear hS3
      try simp only [Act.put, List.setIfInBounds_toArray, List.set_cons_zero, List.set_cons_succ]
      refine wpAnyH_ready (rs := [3]) (by kernel_rfl) (by simp) (readyH_consL rfl (fun K hK => ?_) AllReadyH.nil)
      refine stepG4 rfl (.tmp 72) (.tmp 74) 69 rfl 73 (.agg #[.pointer none, .int .i64 0, .int .i64 0, .int .i64 0, .int .i64 0, .slice none 0 0, .int .i64 0]) 7 72 Tryd.underlying69 Tryd.infoTryT rfl G3.out rfl rfl rfl (by simp [Value.oneCell']) b63.out bby.out ?_
      intro ao1 cap1 wq4 G4
      refine hK.out _ _ (s19 Y9.out X9.out G4.out) (fun hS4 => ?_)
      clear hK K hS G3
      have hS := Lib.hid hS4
      clear hS4
      try simp only [Act.put, List.setIfInBounds_toArray, List.set_cons_zero, List.set_cons_succ]
      refine wpAnyH_ready (rs := [8]) (by kernel_rfl) (by simp) (readyH_consL rfl (fun K hK => ?_) AllReadyH.nil)
      refine stepG4 rfl (.tmp 76) (.tmp 79) 31 rfl 3 (.int .i64 0) 1 8 Tryd.underlying31 Tryd.infoIntT rfl G4.out.rot rfl rfl rfl (by simp [Value.oneCell']) b63.out bbz.out ?_
      intro ao2 cap2 wq5 H5
      have G5 := Lib.hid H5.out.rot.rot
      clear H5
      refine hK.out _ _ (s19 Y9.out X9.out G5.out) (fun hS5 => ?_)
      clear hK K hS G4
      have hS := Lib.hid hS5
      clear hS5
      try simp only [Act.put, List.setIfInBounds_toArray, List.set_cons_zero, List.set_cons_succ]
      refine wpAnyH_ready (rs := [11]) (by kernel_rfl) (by simp) (readyH_consL rfl (fun K hK => ?_) AllReadyH.nil)
      refine stepG4 rfl (.tmp 81) (.tmp 82) 51 rfl 4 (.bool false) 1 1 Tryd.underlying51 Tryd.infoBoolT rfl G5.out.rot.rot rfl rfl rfl (by simp [Value.oneCell']) b63.out bbb.out ?_
      intro ao3 cap3 wq6 H6
      have G6 := Lib.hid H6.out.rot
      clear H6
      refine hK.out _ _ (s19 Y9.out X9.out G6.out) (fun hS6 => ?_)
      clear hK K hS G5
      have hS := Lib.hid hS6
      clear hS6
      try simp only [Act.put, List.setIfInBounds_toArray, List.set_cons_zero, List.set_cons_succ]
      refine wpH_takeL (i := 12) (v := ?_) rfl (by kernel_rfl) (by kernel_rfl) (by kernel_rfl) (fun _ _ _ h => h) (Or.inl ⟨by rfl, ?_⟩) hS.out ?_
      rotate_left
      · intro wy hSy
        clear hSy
        go_simp
        try with_reducible rfl
      try simp only [Act.put, List.setIfInBounds_toArray, List.set_cons_zero, List.set_cons_succ]
      refine wpH_takeL (i := 13) (v := ?_) rfl (by kernel_rfl) (by kernel_rfl) (by kernel_rfl) (fun _ _ _ h => h) (Or.inl ⟨by rfl, ?_⟩) hS.out ?_
      rotate_left
      · intro wy hSy
        clear hSy
        go_simp
        try with_reducible rfl
      try simp only [Act.put, List.setIfInBounds_toArray, List.set_cons_zero, List.set_cons_succ]
      refine wpH_takeL (i := 14) (v := ?_) rfl (by kernel_rfl) (by kernel_rfl) (by kernel_rfl) (fun _ _ _ h => h) (Or.inl ⟨by rfl, ?_⟩) hS.out ?_
      rotate_left
      · intro wy hSy
        clear hSy
        go_simp
        try with_reducible rfl
      try simp only [Act.put, List.setIfInBounds_toArray, List.set_cons_zero, List.set_cons_succ]
      refine wpAnyH_done (by kernel_rfl) ?_ _
      exact HQ.out _ _ _ _ _ _ _ _ _ _ _ _ _ _ _ _ _ _ _ G6

noncomputable def Tryd.cs40 : Code := (Tryd.f8.body.bind (regionN 40)).getD .skip

set_option maxRecDepth 1000000 in
set_option maxHeartbeats 100000000 in
theorem Tryd.rs40 {x9 k sn gcap icap scap : Nat} {zz z0 zp z1 at0 : Int} {cn : Int} {io go so : Option Addr} {LL RR : List Value} {ty9 : TypeId} {c8 : Nat → Nat} {w8 : World}
    (GG : Hid (G3 c8 w8 11 10 (R0 11 3 1 io k icap LL) (R0 10 2 1 go k gcap RR) x9 [.int .i64 zz, .int .i64 z0, .int .i64 zp, .slice go k gcap, .int .i64 z1, .int .i64 0, .slice so sn scap] ty9 w8))
    (b63 : Hid (k + 1 ≤ maxLen)) (bby : Hid ((k + 1) * 8 ≤ 140737488355328)) {fr0 fr1 fr2 fr3 fr4 fr5 fr6 fr7 fr8 fr11 fr12 fr13 fr14 fr15 fr16 fr17 fr18 fr19 fr20 fr23 fr24 fr25 fr26 fr27 fr28 fr29 fr30 fr31 fr32 fr33 fr34 fr35 fr36 fr37 fr38 fr39 fr40 fr41 fr42 fr43 fr44 fr45 fr46 fr47 fr48 fr49 fr50 fr51 fr52 fr53 fr54 fr55 fr56 fr57 fr58 fr59 fr60 fr61 fr62 fr63 fr64 fr65 fr66 fr67 fr68 fr69 fr70 fr71 fr72 fr73 fr74 fr75 fr76 fr77 fr78 fr79 fr80 fr81 fr82 fr83 fr84 fr85 fr86 fr87 fr88 fr89 fr90 fr91 fr92 fr93 fr94 fr95 fr96 fr97 fr98 fr99 fr100 fr101 fr102 fr103 fr104 fr105 fr106 fr107 fr108 fr109 fr110 fr111 fr112 fr113 fr114 fr115 fr116 fr117 fr118 fr119 fr120 fr121 fr122 fr123 fr124 fr125 fr126 fr127 fr128 fr129 fr130 fr131 fr132 fr133 fr134 fr135 fr136 fr137 fr138 fr139 fr140 fr141 fr142 fr143 fr144 fr145 fr146 fr147 fr148 fr149 fr150 fr151 fr152 fr153 fr154 fr155 fr156 fr157 fr158 fr159 fr160 fr161 fr162 fr163 fr164 fr165 fr166 fr167 fr168 fr169 fr170 fr171 fr172 fr173 fr174 fr175 fr176 fr177 fr178 fr179 fr180 fr181 fr182 fr183 fr184 fr185 fr186 fr187 fr188 fr189 fr190 fr191 fr192 fr193 fr194 fr195 fr196 fr197 fr198 fr199 fr200 fr201 fr202 fr203 fr204 fr205 fr206 fr207 fr208 fr209 fr210 fr211 fr212 fr213 fr214 fr215 fr216 fr217 fr218 fr219 fr220 fr221 fr222 fr223 fr224 fr225 fr226 fr227 fr228 fr229 fr230 fr231 fr232 fr233 fr234 fr235 fr236 fr237 fr238 fr239 fr240 fr241 fr242 fr243 fr244 fr245 fr246 fr247 fr248 fr249 fr250 fr251 fr252 fr253 fr254 fr255 fr256 fr257 fr258 fr259 fr260 fr261 fr262 fr263 fr264 fr265 fr266 fr267 fr268 fr269 fr270 fr271 fr272 fr273 fr274 fr275 fr276 fr277 fr278 fr279 fr280 fr281 fr282 fr283 fr284 : Value} {Q0 : Exit → Act → World → Prop}
    (hQ : ∀ (ao1 : Option Addr) (cap1 : Nat) (ao2 : Option Addr) (cap2 : Nat) (w' : World), ∀ g192 g193 g194 g195 g196 g197 g198 g199 g200 g201 g202 g203 : Value, Hid (G3 c8 w8 11 10 (R0 11 3 1 ao1 (k + 1) cap1 (LL ++ [.int .i64 cn])) (R0 10 2 1 ao2 (k + 1) cap2 (RR ++ [.int .i64 at0])) x9 [.int .i64 zz, .int .i64 z0, .int .i64 zp, .slice ao2 (k + 1) cap2, .int .i64 z1, .int .i64 0, .slice so sn scap] ty9 w') → Q0 .normal ⟨#[fr0, fr1, fr2, fr3, fr4, fr5, fr6, fr7, fr8, .pointer (some ⟨x9, 0, none⟩), .slice ao1 (k + 1) cap1, fr11, fr12, fr13, fr14, fr15, fr16, fr17, fr18, fr19, fr20, .int .i64 at0, .int .i64 cn, fr23, fr24, fr25, fr26, fr27, fr28, fr29, fr30, fr31, fr32, fr33, fr34, fr35, fr36, fr37, fr38, fr39, fr40, fr41, fr42, fr43, fr44, fr45, fr46, fr47, fr48, fr49, fr50, fr51, fr52, fr53, fr54, fr55, fr56, fr57, fr58, fr59, fr60, fr61, fr62, fr63, fr64, fr65, fr66, fr67, fr68, fr69, fr70, fr71, fr72, fr73, fr74, fr75, fr76, fr77, fr78, fr79, fr80, fr81, fr82, fr83, fr84, fr85, fr86, fr87, fr88, fr89, fr90, fr91, fr92, fr93, fr94, fr95, fr96, fr97, fr98, fr99, fr100, fr101, fr102, fr103, fr104, fr105, fr106, fr107, fr108, fr109, fr110, fr111, fr112, fr113, fr114, fr115, fr116, fr117, fr118, fr119, fr120, fr121, fr122, fr123, fr124, fr125, fr126, fr127, fr128, fr129, fr130, fr131, fr132, fr133, fr134, fr135, fr136, fr137, fr138, fr139, fr140, fr141, fr142, fr143, fr144, fr145, fr146, fr147, fr148, fr149, fr150, fr151, fr152, fr153, fr154, fr155, fr156, fr157, fr158, fr159, fr160, fr161, fr162, fr163, fr164, fr165, fr166, fr167, fr168, fr169, fr170, fr171, fr172, fr173, fr174, fr175, fr176, fr177, fr178, fr179, fr180, fr181, fr182, fr183, fr184, fr185, fr186, fr187, fr188, fr189, fr190, fr191, g192, g193, g194, g195, g196, g197, g198, g199, g200, g201, g202, g203, fr204, fr205, fr206, fr207, fr208, fr209, fr210, fr211, fr212, fr213, fr214, fr215, fr216, fr217, fr218, fr219, fr220, fr221, fr222, fr223, fr224, fr225, fr226, fr227, fr228, fr229, fr230, fr231, fr232, fr233, fr234, fr235, fr236, fr237, fr238, fr239, fr240, fr241, fr242, fr243, fr244, fr245, fr246, fr247, fr248, fr249, fr250, fr251, fr252, fr253, fr254, fr255, fr256, fr257, fr258, fr259, fr260, fr261, fr262, fr263, fr264, fr265, fr266, fr267, fr268, fr269, fr270, fr271, fr272, fr273, fr274, fr275, fr276, fr277, fr278, fr279, fr280, fr281, fr282, fr283, fr284], []⟩ w') : Code.wp Tryd.prog Tryd.cs40 Q0 ⟨#[fr0, fr1, fr2, fr3, fr4, fr5, fr6, fr7, fr8, .pointer (some ⟨x9, 0, none⟩), .slice io k icap, fr11, fr12, fr13, fr14, fr15, fr16, fr17, fr18, fr19, fr20, .int .i64 at0, .int .i64 cn, fr23, fr24, fr25, fr26, fr27, fr28, fr29, fr30, fr31, fr32, fr33, fr34, fr35, fr36, fr37, fr38, fr39, fr40, fr41, fr42, fr43, fr44, fr45, fr46, fr47, fr48, fr49, fr50, fr51, fr52, fr53, fr54, fr55, fr56, fr57, fr58, fr59, fr60, fr61, fr62, fr63, fr64, fr65, fr66, fr67, fr68, fr69, fr70, fr71, fr72, fr73, fr74, fr75, fr76, fr77, fr78, fr79, fr80, fr81, fr82, fr83, fr84, fr85, fr86, fr87, fr88, fr89, fr90, fr91, fr92, fr93, fr94, fr95, fr96, fr97, fr98, fr99, fr100, fr101, fr102, fr103, fr104, fr105, fr106, fr107, fr108, fr109, fr110, fr111, fr112, fr113, fr114, fr115, fr116, fr117, fr118, fr119, fr120, fr121, fr122, fr123, fr124, fr125, fr126, fr127, fr128, fr129, fr130, fr131, fr132, fr133, fr134, fr135, fr136, fr137, fr138, fr139, fr140, fr141, fr142, fr143, fr144, fr145, fr146, fr147, fr148, fr149, fr150, fr151, fr152, fr153, fr154, fr155, fr156, fr157, fr158, fr159, fr160, fr161, fr162, fr163, fr164, fr165, fr166, fr167, fr168, fr169, fr170, fr171, fr172, fr173, fr174, fr175, fr176, fr177, fr178, fr179, fr180, fr181, fr182, fr183, fr184, fr185, fr186, fr187, fr188, fr189, fr190, fr191, fr192, fr193, fr194, fr195, fr196, fr197, fr198, fr199, fr200, fr201, fr202, fr203, fr204, fr205, fr206, fr207, fr208, fr209, fr210, fr211, fr212, fr213, fr214, fr215, fr216, fr217, fr218, fr219, fr220, fr221, fr222, fr223, fr224, fr225, fr226, fr227, fr228, fr229, fr230, fr231, fr232, fr233, fr234, fr235, fr236, fr237, fr238, fr239, fr240, fr241, fr242, fr243, fr244, fr245, fr246, fr247, fr248, fr249, fr250, fr251, fr252, fr253, fr254, fr255, fr256, fr257, fr258, fr259, fr260, fr261, fr262, fr263, fr264, fr265, fr266, fr267, fr268, fr269, fr270, fr271, fr272, fr273, fr274, fr275, fr276, fr277, fr278, fr279, fr280, fr281, fr282, fr283, fr284], []⟩ w8 := by
  conv => arg 2; whnf
  refine wp_region_noPanic ?_
  have HQ := Lib.hid hQ
  clear hQ
  have G0 := Lib.hid GG.out.drew
  refine wp_region_till (S := CellT x9 (.int .i64 z0) (.slice go k gcap)) (f := 13) (by kernel_rfl) ?_
  have hS := Lib.hid G0.out.mt
  generalize w8.drew = wq0 at G0 hS ⊢
  refine wpTill_takeL (i := 0) (v := ?_) (l := [0]) rfl (by kernel_rfl) (by kernel_rfl) (by kernel_rfl) (by kernel_rfl) (by kernel_rfl) (by rfl) (fun _ _ _ h => h) (Or.inl ⟨by rfl, ?_⟩) hS.out ?_
  rotate_left
  · intro wy hSy
    clear hSy
    go_simp
    try with_reducible rfl
  try simp only [Act.put, List.setIfInBounds_toArray, List.set_cons_zero, List.set_cons_succ]
  refine wpTill_takeL (i := 1) (v := ?_) (l := [1]) rfl (by kernel_rfl) (by kernel_rfl) (by kernel_rfl) (by kernel_rfl) (by kernel_rfl) (by rfl) (fun _ _ _ h => h) (Or.inl ⟨by rfl, ?_⟩) hS.out ?_
  rotate_left
  · intro wy hSy
    clear hSy
    go_simp
    try with_reducible rfl
  try simp only [Act.put, List.setIfInBounds_toArray, List.set_cons_zero, List.set_cons_succ]
  refine wpTill_takeL (i := 4) (v := ?_) (l := [4]) rfl (by kernel_rfl) (by kernel_rfl) (by kernel_rfl) (by kernel_rfl) (by kernel_rfl) (by rfl) (fun _ _ _ h => h) (Or.inl ⟨by rfl, ?_⟩) hS.out ?_
  rotate_left
  · intro wy hSy
    clear hSy
    go_simp
    try with_reducible rfl
  try simp only [Act.put, List.setIfInBounds_toArray, List.set_cons_zero, List.set_cons_succ]
  refine wpTill_takeL (i := 5) (v := ?_) (l := [5]) rfl (by kernel_rfl) (by kernel_rfl) (by kernel_rfl) (by kernel_rfl) (by kernel_rfl) (by rfl) (fun _ _ _ h => h) (Or.inl ⟨by rfl, ?_⟩) hS.out ?_
  rotate_left
  · intro wy hSy
    clear hSy
    go_simp
    try with_reducible rfl
  try simp only [Act.put, List.setIfInBounds_toArray, List.set_cons_zero, List.set_cons_succ]
  refine wpTill_takeL (i := 6) (v := ?_) (l := [6]) rfl (by kernel_rfl) (by kernel_rfl) (by kernel_rfl) (by kernel_rfl) (by kernel_rfl) (by rfl) (fun _ _ _ h => h) (Or.inl ⟨by rfl, ?_⟩) hS.out ?_
  rotate_left
  · intro wy hSy
    obtain ⟨m1, m3⟩ := hSy
    go_simp
    try with_reducible rfl
  try simp only [Act.put, List.setIfInBounds_toArray, List.set_cons_zero, List.set_cons_succ]
  refine wpTill_takeL (i := 7) (v := ?_) (l := [7]) rfl (by kernel_rfl) (by kernel_rfl) (by kernel_rfl) (by kernel_rfl) (by kernel_rfl) (by rfl) (fun _ _ _ h => h) (Or.inl ⟨by rfl, ?_⟩) hS.out ?_
  rotate_left
  · intro wy hSy
    clear hSy
    go_simp
    try with_reducible rfl
  try simp only [Act.put, List.setIfInBounds_toArray, List.set_cons_zero, List.set_cons_succ]
  refine wpTill_ready (rs := [2, 8]) (by kernel_rfl) (by simp) (AllTill.consL rfl (fun K hK => ?_) (AllTill.consL rfl (fun K hK => ?_) AllTill.nil))
  · refine step_bs1G rfl 31 3 (.tmp 193) rfl (.int .i64 0) 8 Tryd.underlying31 Tryd.infoIntT G0.out (v := .int .i64 cn) rfl rfl ?_
    intro ba wq1 G1
    refine hK.out _ _ (fun _ => G1.out.mt) ?_
    clear hK K hS G0
    have hS := Lib.hid G1.out.mt
    try simp only [Act.put, List.setIfInBounds_toArray, List.set_cons_zero, List.set_cons_succ]
    refine wpTill_ready (rs := [3, 8]) (by kernel_rfl) (by simp) (AllTill.consL rfl (fun K hK => ?_) (AllTill.consL rfl (fun K hK => ?_) AllTill.nil))
    · refine stepG rfl (.tmp 192) (.tmp 194) 31 rfl 3 (.int .i64 0) 1 8 Tryd.underlying31 Tryd.infoIntT rfl G1.out rfl rfl rfl (by simp [Value.oneCell']) b63.out bby.out ?_
      intro ao1 cap1 wq2 G2
      refine hK.out _ _ (fun _ => G2.out.mt) ?_
      clear hK K hS G1
      have hS := Lib.hid G2.out.mt
      try simp only [Act.put, List.setIfInBounds_toArray, List.set_cons_zero, List.set_cons_succ]
      refine wpTill_ready (rs := [8]) (by kernel_rfl) (by simp) (AllTill.consL rfl (fun K hK => ?_) AllTill.nil)
      refine step_bs1G rfl 22 2 (.tmp 199) rfl (.int .i64 0) 8 Tryd.underlying22 Tryd.infoI64T G2.out.swap (v := .int .i64 at0) rfl rfl ?_
      intro bb wq3 H3
      have G3 := Lib.hid H3.out.swap
      clear H3
      refine hK.out _ _ (fun _ => G3.out.mt) ?_
      clear hK K hS G2
      have hS := Lib.hid G3.out.mt
      try simp only [Act.put, List.setIfInBounds_toArray, List.set_cons_zero, List.set_cons_succ]
      refine wpTill_ready (rs := [9]) (by kernel_rfl) (by simp) (AllTill.consL rfl (fun K hK => ?_) AllTill.nil)
      refine stepG rfl (.tmp 198) (.tmp 200) 22 rfl 2 (.int .i64 0) 1 8 Tryd.underlying22 Tryd.infoI64T rfl G3.out.swap rfl rfl rfl (by simp [Value.oneCell']) b63.out bby.out ?_
      intro ao2 cap2 wq4 H4
      have G4 := Lib.hid H4.out.swap
      clear H4
      refine hK.out _ _ (fun _ => G4.out.mt) ?_
      clear hK K hS G3
      have hS := Lib.hid G4.out.mt
      try simp only [Act.put, List.setIfInBounds_toArray, List.set_cons_zero, List.set_cons_succ]
      refine wpTill_takeL (i := 10) (v := ?_) (l := [10]) rfl (by kernel_rfl) (by kernel_rfl) (by kernel_rfl) (by kernel_rfl) (by kernel_rfl) (by rfl) (fun _ _ _ h => h) (Or.inl ⟨by rfl, ?_⟩) hS.out ?_
      rotate_left
      · intro wy hSy
        clear hSy
        go_simp
        try with_reducible rfl
      try simp only [Act.put, List.setIfInBounds_toArray, List.set_cons_zero, List.set_cons_succ]
      refine wpTill_takeL (i := 11) (v := ?_) (l := [12, 11]) rfl (by kernel_rfl) (by kernel_rfl) (by kernel_rfl) (by kernel_rfl) (by kernel_rfl) (by rfl) (fun _ _ _ h => h) (Or.inl ⟨by rfl, ?_⟩) hS.out ?_
      rotate_left
      · intro wy hSy
        clear hSy
        go_simp
        try with_reducible rfl
      try simp only [Act.put, List.setIfInBounds_toArray, List.set_cons_zero, List.set_cons_succ]
      refine wpTill_takeL (i := 12) (v := ?_) (l := [12]) rfl (by kernel_rfl) (by kernel_rfl) (by kernel_rfl) (by kernel_rfl) (by kernel_rfl) (by rfl) (fun _ _ _ h => h) (Or.inl ⟨by rfl, ?_⟩) hS.out ?_
      rotate_left
      · intro wy hSy
        clear hSy
        go_simp
        try with_reducible rfl
      try simp only [Act.put, List.setIfInBounds_toArray, List.set_cons_zero, List.set_cons_succ]
      refine wpTill_ready (rs := [13]) (by kernel_rfl) (by simp) (AllTill.consL rfl (fun K hK => ?_) AllTill.nil)
      obtain ⟨m1, m3, f3, lm⟩ := G4.out.m
      go_simp
      refine hK.out _ _ (fun h => absurd rfl h) ?_
      clear hK K
      refine wpTill_done (by kernel_rfl) ?_ _
      exact HQ.out _ _ _ _ _ _ _ _ _ _ _ _ _ _ _ _ _ (Lib.hid (G4.out.st (i := 3) (v := .slice ao2 (k + 1) cap2)))
    · refine step_bs1G rfl 22 2 (.tmp 199) rfl (.int .i64 0) 8 Tryd.underlying22 Tryd.infoI64T G1.out.swap (v := .int .i64 at0) rfl rfl ?_
      intro bb wq2 H2
      have G2 := Lib.hid H2.out.swap
      clear H2
      refine hK.out _ _ (fun _ => G2.out.mt) ?_
      clear hK K hS G1
      have hS := Lib.hid G2.out.mt
      try simp only [Act.put, List.setIfInBounds_toArray, List.set_cons_zero, List.set_cons_succ]
      refine wpTill_ready (rs := [3]) (by kernel_rfl) (by simp) (AllTill.consL rfl (fun K hK => ?_) AllTill.nil)
      refine stepG rfl (.tmp 192) (.tmp 194) 31 rfl 3 (.int .i64 0) 1 8 Tryd.underlying31 Tryd.infoIntT rfl G2.out rfl rfl rfl (by simp [Value.oneCell']) b63.out bby.out ?_
      intro ao1 cap1 wq3 G3
      refine hK.out _ _ (fun _ => G3.out.mt) ?_
      clear hK K hS G2
      have hS := Lib.hid G3.out.mt
      try simp only [Act.put, List.setIfInBounds_toArray, List.set_cons_zero, List.set_cons_succ]
      refine wpTill_ready (rs := [9]) (by kernel_rfl) (by simp) (AllTill.consL rfl (fun K hK => ?_) AllTill.nil)
      refine stepG rfl (.tmp 198) (.tmp 200) 22 rfl 2 (.int .i64 0) 1 8 Tryd.underlying22 Tryd.infoI64T rfl G3.out.swap rfl rfl rfl (by simp [Value.oneCell']) b63.out bby.out ?_
      intro ao2 cap2 wq4 H4
      have G4 := Lib.hid H4.out.swap
      clear H4
      refine hK.out _ _ (fun _ => G4.out.mt) ?_
      clear hK K hS G3
      have hS := Lib.hid G4.out.mt
      try simp only [Act.put, List.setIfInBounds_toArray, List.set_cons_zero, List.set_cons_succ]
      refine wpTill_takeL (i := 10) (v := ?_) (l := [10]) rfl (by kernel_rfl) (by kernel_rfl) (by kernel_rfl) (by kernel_rfl) (by kernel_rfl) (by rfl) (fun _ _ _ h => h) (Or.inl ⟨by rfl, ?_⟩) hS.out ?_
      rotate_left
      · intro wy hSy
        clear hSy
        go_simp
        try with_reducible rfl
      try simp only [Act.put, List.setIfInBounds_toArray, List.set_cons_zero, List.set_cons_succ]
      refine wpTill_takeL (i := 11) (v := ?_) (l := [12, 11]) rfl (by kernel_rfl) (by kernel_rfl) (by kernel_rfl) (by kernel_rfl) (by kernel_rfl) (by rfl) (fun _ _ _ h => h) (Or.inl ⟨by rfl, ?_⟩) hS.out ?_
      rotate_left
      · intro wy hSy
        clear hSy
        go_simp
        try with_reducible rfl
      try simp only [Act.put, List.setIfInBounds_toArray, List.set_cons_zero, List.set_cons_succ]
      refine wpTill_takeL (i := 12) (v := ?_) (l := [12]) rfl (by kernel_rfl) (by kernel_rfl) (by kernel_rfl) (by kernel_rfl) (by kernel_rfl) (by rfl) (fun _ _ _ h => h) (Or.inl ⟨by rfl, ?_⟩) hS.out ?_
      rotate_left
      · intro wy hSy
        clear hSy
        go_simp
        try with_reducible rfl
      try simp only [Act.put, List.setIfInBounds_toArray, List.set_cons_zero, List.set_cons_succ]
      refine wpTill_ready (rs := [13]) (by kernel_rfl) (by simp) (AllTill.consL rfl (fun K hK => ?_) AllTill.nil)
      obtain ⟨m1, m3, f3, lm⟩ := G4.out.m
      go_simp
      refine hK.out _ _ (fun h => absurd rfl h) ?_
      clear hK K
      refine wpTill_done (by kernel_rfl) ?_ _
      exact HQ.out _ _ _ _ _ _ _ _ _ _ _ _ _ _ _ _ _ (Lib.hid (G4.out.st (i := 3) (v := .slice ao2 (k + 1) cap2)))
  · refine step_bs1G rfl 22 2 (.tmp 199) rfl (.int .i64 0) 8 Tryd.underlying22 Tryd.infoI64T G0.out.swap (v := .int .i64 at0) rfl rfl ?_
    intro bb wq1 H1
    have G1 := Lib.hid H1.out.swap
    clear H1
    refine hK.out _ _ (fun _ => G1.out.mt) ?_
    clear hK K hS G0
    have hS := Lib.hid G1.out.mt
    try simp only [Act.put, List.setIfInBounds_toArray, List.set_cons_zero, List.set_cons_succ]
    refine wpTill_ready (rs := [2]) (by kernel_rfl) (by simp) (AllTill.consL rfl (fun K hK => ?_) AllTill.nil)
    refine step_bs1G rfl 31 3 (.tmp 193) rfl (.int .i64 0) 8 Tryd.underlying31 Tryd.infoIntT G1.out (v := .int .i64 cn) rfl rfl ?_
    intro ba wq2 G2
    refine hK.out _ _ (fun _ => G2.out.mt) ?_
    clear hK K hS G1
    have hS := Lib.hid G2.out.mt
    try simp only [Act.put, List.setIfInBounds_toArray, List.set_cons_zero, List.set_cons_succ]
    refine wpTill_ready (rs := [3]) (by kernel_rfl) (by simp) (AllTill.consL rfl (fun K hK => ?_) AllTill.nil)
    refine stepG rfl (.tmp 192) (.tmp 194) 31 rfl 3 (.int .i64 0) 1 8 Tryd.underlying31 Tryd.infoIntT rfl G2.out rfl rfl rfl (by simp [Value.oneCell']) b63.out bby.out ?_
    intro ao1 cap1 wq3 G3
    refine hK.out _ _ (fun _ => G3.out.mt) ?_
    clear hK K hS G2
    have hS := Lib.hid G3.out.mt
    try simp only [Act.put, List.setIfInBounds_toArray, List.set_cons_zero, List.set_cons_succ]
    refine wpTill_ready (rs := [9]) (by kernel_rfl) (by simp) (AllTill.consL rfl (fun K hK => ?_) AllTill.nil)
    refine stepG rfl (.tmp 198) (.tmp 200) 22 rfl 2 (.int .i64 0) 1 8 Tryd.underlying22 Tryd.infoI64T rfl G3.out.swap rfl rfl rfl (by simp [Value.oneCell']) b63.out bby.out ?_
    intro ao2 cap2 wq4 H4
    have G4 := Lib.hid H4.out.swap
    clear H4
    refine hK.out _ _ (fun _ => G4.out.mt) ?_
    clear hK K hS G3
    have hS := Lib.hid G4.out.mt
    try simp only [Act.put, List.setIfInBounds_toArray, List.set_cons_zero, List.set_cons_succ]
    refine wpTill_takeL (i := 10) (v := ?_) (l := [10]) rfl (by kernel_rfl) (by kernel_rfl) (by kernel_rfl) (by kernel_rfl) (by kernel_rfl) (by rfl) (fun _ _ _ h => h) (Or.inl ⟨by rfl, ?_⟩) hS.out ?_
    rotate_left
    · intro wy hSy
      clear hSy
      go_simp
      try with_reducible rfl
    try simp only [Act.put, List.setIfInBounds_toArray, List.set_cons_zero, List.set_cons_succ]
    refine wpTill_takeL (i := 11) (v := ?_) (l := [12, 11]) rfl (by kernel_rfl) (by kernel_rfl) (by kernel_rfl) (by kernel_rfl) (by kernel_rfl) (by rfl) (fun _ _ _ h => h) (Or.inl ⟨by rfl, ?_⟩) hS.out ?_
    rotate_left
    · intro wy hSy
      clear hSy
      go_simp
      try with_reducible rfl
    try simp only [Act.put, List.setIfInBounds_toArray, List.set_cons_zero, List.set_cons_succ]
    refine wpTill_takeL (i := 12) (v := ?_) (l := [12]) rfl (by kernel_rfl) (by kernel_rfl) (by kernel_rfl) (by kernel_rfl) (by kernel_rfl) (by rfl) (fun _ _ _ h => h) (Or.inl ⟨by rfl, ?_⟩) hS.out ?_
    rotate_left
    · intro wy hSy
      clear hSy
      go_simp
      try with_reducible rfl
    try simp only [Act.put, List.setIfInBounds_toArray, List.set_cons_zero, List.set_cons_succ]
    refine wpTill_ready (rs := [13]) (by kernel_rfl) (by simp) (AllTill.consL rfl (fun K hK => ?_) AllTill.nil)
    obtain ⟨m1, m3, f3, lm⟩ := G4.out.m
    go_simp
    refine hK.out _ _ (fun h => absurd rfl h) ?_
    clear hK K
    refine wpTill_done (by kernel_rfl) ?_ _
    exact HQ.out _ _ _ _ _ _ _ _ _ _ _ _ _ _ _ _ _ (Lib.hid (G4.out.st (i := 3) (v := .slice ao2 (k + 1) cap2)))

end Go.Proofs.YtoifknfmamcimaaDoor

/- Region 29 of MultiShares, a theorem each. No condition beyond each theorem's own. -/
namespace Go.Proofs.YtoifknfmamcimaaDoor
open Go.RowKit

theorem Tryd.infoSzL : (Tryd.prog.info? 73).map (·.size) = some 7 := by kernel_rfl

noncomputable def Tryd.cs29 : Code := (Tryd.f8.body.bind (regionN 29)).getD .skip

set_option maxRecDepth 1000000 in
set_option maxHeartbeats 100000000 in
theorem Tryd.rs29 {p i lcap xb yb m' cap' : Nat} {V : List ST} {x : ST} {a : Addr} {n' zs cl' hi' mo' : Int} {ao' : Option Addr} {nT : Nat} {v0 v2 : Value} {c8 : Nat → Nat} {w8 : World}
    (L8 : Hid (Row c8 13 w8 73 7 (some a) nT lcap (V.flatMap (ST.lc p)))) (X8 : Hid (Blk c8 15 w8 xb [v0, .int .i64 (i : Int), v2] 71)) (Y8 : Hid (Blk c8 15 w8 yb [.pointer (some ⟨p, 0, none⟩), .int .i64 n', .int .i64 zs, .int .i64 cl', .int .i64 hi', .slice ao' m' cap', .int .i64 mo'] 73)) (HT : Hid (V[i]? = some x))
    (i0 : (0 : Int) ≤ (i : Int)) (i1 : (i : Int) < (nT : Int)) {fr0 fr1 fr2 fr3 fr4 fr5 fr6 fr7 fr8 fr9 fr10 fr11 fr13 fr14 fr16 fr17 fr18 fr19 fr21 fr22 fr23 fr24 fr25 fr26 fr27 fr28 fr29 fr30 fr31 fr32 fr33 fr34 fr35 fr36 fr37 fr38 fr39 fr40 fr41 fr42 fr43 fr44 fr45 fr46 fr47 fr48 fr49 fr50 fr51 fr52 fr53 fr54 fr55 fr56 fr57 fr58 fr59 fr60 fr61 fr62 fr63 fr64 fr65 fr66 fr67 fr68 fr69 fr70 fr71 fr72 fr73 fr74 fr75 fr76 fr77 fr78 fr79 fr80 fr81 fr82 fr83 fr84 fr85 fr86 fr87 fr88 fr89 fr90 fr91 fr92 fr93 fr94 fr95 fr96 fr97 fr98 fr99 fr100 fr101 fr102 fr103 fr104 fr105 fr106 fr107 fr108 fr109 fr110 fr111 fr112 fr113 fr114 fr115 fr116 fr117 fr118 fr119 fr120 fr121 fr122 fr123 fr124 fr125 fr126 fr127 fr128 fr129 fr130 fr131 fr132 fr133 fr134 fr135 fr136 fr137 fr138 fr139 fr140 fr141 fr142 fr143 fr144 fr145 fr146 fr147 fr148 fr149 fr150 fr151 fr152 fr153 fr154 fr155 fr156 fr157 fr158 fr159 fr160 fr161 fr162 fr163 fr164 fr165 fr166 fr167 fr168 fr169 fr170 fr171 fr172 fr173 fr174 fr175 fr176 fr177 fr178 fr179 fr180 fr181 fr182 fr183 fr184 fr185 fr186 fr187 fr188 fr189 fr190 fr191 fr192 fr193 fr194 fr195 fr196 fr197 fr198 fr199 fr200 fr201 fr202 fr203 fr204 fr205 fr206 fr207 fr208 fr209 fr210 fr211 fr212 fr213 fr214 fr215 fr216 fr217 fr218 fr219 fr220 fr221 fr222 fr223 fr224 fr225 fr226 fr227 fr228 fr229 fr230 fr231 fr232 fr233 fr234 fr235 fr236 fr237 fr238 fr239 fr240 fr241 fr242 fr243 fr244 fr245 fr246 fr247 fr248 fr249 fr250 fr251 fr252 fr253 fr254 fr255 fr256 fr257 fr258 fr259 fr260 fr261 fr262 fr263 fr264 fr265 fr266 fr267 fr268 fr269 fr270 fr271 fr272 fr273 fr274 fr275 fr276 fr277 fr278 fr279 fr280 fr281 fr282 fr283 fr284 : Value} {Q0 : Exit → Act → World → Prop}
    (hQ : ∀ (w' : World), ∀ g153 g154 g155 g156 g157 : Value, Hid (w' = (put7w w8 (a.add (i * 7)) (.pointer (some ⟨p, 0, none⟩)) (.int .i64 n') (.int .i64 zs) (.int .i64 cl') (.int .i64 hi') (.slice ao' m' cap') (.int .i64 mo'))) → Q0 .normal ⟨#[fr0, fr1, fr2, fr3, fr4, fr5, fr6, fr7, fr8, fr9, fr10, fr11, .slice (some a) nT lcap, fr13, fr14, .pointer (some ⟨xb, 0, none⟩), fr16, fr17, fr18, fr19, .pointer (some ⟨yb, 0, none⟩), fr21, fr22, fr23, fr24, fr25, fr26, fr27, fr28, fr29, fr30, fr31, fr32, fr33, fr34, fr35, fr36, fr37, fr38, fr39, fr40, fr41, fr42, fr43, fr44, fr45, fr46, fr47, fr48, fr49, fr50, fr51, fr52, fr53, fr54, fr55, fr56, fr57, fr58, fr59, fr60, fr61, fr62, fr63, fr64, fr65, fr66, fr67, fr68, fr69, fr70, fr71, fr72, fr73, fr74, fr75, fr76, fr77, fr78, fr79, fr80, fr81, fr82, fr83, fr84, fr85, fr86, fr87, fr88, fr89, fr90, fr91, fr92, fr93, fr94, fr95, fr96, fr97, fr98, fr99, fr100, fr101, fr102, fr103, fr104, fr105, fr106, fr107, fr108, fr109, fr110, fr111, fr112, fr113, fr114, fr115, fr116, fr117, fr118, fr119, fr120, fr121, fr122, fr123, fr124, fr125, fr126, fr127, fr128, fr129, fr130, fr131, fr132, fr133, fr134, fr135, fr136, fr137, fr138, fr139, fr140, fr141, fr142, fr143, fr144, fr145, fr146, fr147, fr148, fr149, fr150, fr151, fr152, g153, g154, g155, g156, g157, fr158, fr159, fr160, fr161, fr162, fr163, fr164, fr165, fr166, fr167, fr168, fr169, fr170, fr171, fr172, fr173, fr174, fr175, fr176, fr177, fr178, fr179, fr180, fr181, fr182, fr183, fr184, fr185, fr186, fr187, fr188, fr189, fr190, fr191, fr192, fr193, fr194, fr195, fr196, fr197, fr198, fr199, fr200, fr201, fr202, fr203, fr204, fr205, fr206, fr207, fr208, fr209, fr210, fr211, fr212, fr213, fr214, fr215, fr216, fr217, fr218, fr219, fr220, fr221, fr222, fr223, fr224, fr225, fr226, fr227, fr228, fr229, fr230, fr231, fr232, fr233, fr234, fr235, fr236, fr237, fr238, fr239, fr240, fr241, fr242, fr243, fr244, fr245, fr246, fr247, fr248, fr249, fr250, fr251, fr252, fr253, fr254, fr255, fr256, fr257, fr258, fr259, fr260, fr261, fr262, fr263, fr264, fr265, fr266, fr267, fr268, fr269, fr270, fr271, fr272, fr273, fr274, fr275, fr276, fr277, fr278, fr279, fr280, fr281, fr282, fr283, fr284], []⟩ w') : Code.wp Tryd.prog Tryd.cs29 Q0 ⟨#[fr0, fr1, fr2, fr3, fr4, fr5, fr6, fr7, fr8, fr9, fr10, fr11, .slice (some a) nT lcap, fr13, fr14, .pointer (some ⟨xb, 0, none⟩), fr16, fr17, fr18, fr19, .pointer (some ⟨yb, 0, none⟩), fr21, fr22, fr23, fr24, fr25, fr26, fr27, fr28, fr29, fr30, fr31, fr32, fr33, fr34, fr35, fr36, fr37, fr38, fr39, fr40, fr41, fr42, fr43, fr44, fr45, fr46, fr47, fr48, fr49, fr50, fr51, fr52, fr53, fr54, fr55, fr56, fr57, fr58, fr59, fr60, fr61, fr62, fr63, fr64, fr65, fr66, fr67, fr68, fr69, fr70, fr71, fr72, fr73, fr74, fr75, fr76, fr77, fr78, fr79, fr80, fr81, fr82, fr83, fr84, fr85, fr86, fr87, fr88, fr89, fr90, fr91, fr92, fr93, fr94, fr95, fr96, fr97, fr98, fr99, fr100, fr101, fr102, fr103, fr104, fr105, fr106, fr107, fr108, fr109, fr110, fr111, fr112, fr113, fr114, fr115, fr116, fr117, fr118, fr119, fr120, fr121, fr122, fr123, fr124, fr125, fr126, fr127, fr128, fr129, fr130, fr131, fr132, fr133, fr134, fr135, fr136, fr137, fr138, fr139, fr140, fr141, fr142, fr143, fr144, fr145, fr146, fr147, fr148, fr149, fr150, fr151, fr152, fr153, fr154, fr155, fr156, fr157, fr158, fr159, fr160, fr161, fr162, fr163, fr164, fr165, fr166, fr167, fr168, fr169, fr170, fr171, fr172, fr173, fr174, fr175, fr176, fr177, fr178, fr179, fr180, fr181, fr182, fr183, fr184, fr185, fr186, fr187, fr188, fr189, fr190, fr191, fr192, fr193, fr194, fr195, fr196, fr197, fr198, fr199, fr200, fr201, fr202, fr203, fr204, fr205, fr206, fr207, fr208, fr209, fr210, fr211, fr212, fr213, fr214, fr215, fr216, fr217, fr218, fr219, fr220, fr221, fr222, fr223, fr224, fr225, fr226, fr227, fr228, fr229, fr230, fr231, fr232, fr233, fr234, fr235, fr236, fr237, fr238, fr239, fr240, fr241, fr242, fr243, fr244, fr245, fr246, fr247, fr248, fr249, fr250, fr251, fr252, fr253, fr254, fr255, fr256, fr257, fr258, fr259, fr260, fr261, fr262, fr263, fr264, fr265, fr266, fr267, fr268, fr269, fr270, fr271, fr272, fr273, fr274, fr275, fr276, fr277, fr278, fr279, fr280, fr281, fr282, fr283, fr284], []⟩ w8 := by
  conv => arg 2; whnf
  refine wp_region_noPanic ?_
  have HQ := Lib.hid hQ
  clear hQ
  refine wp_region_lit ?_
  obtain ⟨l0, l1, l2, l3, l4, l5, l6⟩ := cl_7 Y8.out
  obtain ⟨q0, q1, q2, lxb⟩ := act_cells X8.out
  have HF := Lib.hid (add_flat L8.out.2.2.2.1 (i * 7))
  refine wpList_plain rfl (fun K hK => ?_)
  go_simp
  refine hK _ _ ?_
  clear hK K
  refine wpList_plain rfl (fun K hK => ?_)
  go_simp
  refine hK _ _ ?_
  clear hK K
  refine wpList_plain rfl (fun K hK => ?_)
  go_simp
  refine hK _ _ ?_
  clear hK K
  refine wpList_plain rfl (fun K hK => ?_)
  go_simp
  refine hK _ _ ?_
  clear hK K
  refine wpList_plain rfl (fun K hK => ?_)
  go_simp
  refine hK _ _ ?_
  clear hK K
  refine wpList_plain rfl (fun K hK => ?_)
  refine wp_store_mid 73 (.tmp 157) (.tmp 156) rfl a.block (a.off + i * 7) #[.pointer (some ⟨p, 0, none⟩), .int .i64 n', .int .i64 zs, .int .i64 cl', .int .i64 hi', .slice ao' m' cap', .int .i64 mo'] (by rw [← HF.out]; rfl) rfl (row_there (ST.lc_len p) L8.out HT.out) Tryd.infoSzL (by simp [Value.oneCell']) ?_
  refine hK _ _ ?_
  clear hK K
  exact HQ.out _ _ _ _ _ _ (Lib.hid (by rw [HF.out]; rfl))

end Go.Proofs.YtoifknfmamcimaaDoor
