/- Claims one behind the other, published in whatever order, in plain Lean. No condition beyond each law's own. -/
import Derived.Test.YtoifknfmamcimaaDoorAvail2
namespace Go.Proofs.YtoifknfmamcimaaDoor
open Go.RowKit

/-- Where the claims begin: each is of one to five. -/
structure BOK (B : Nat → Int) (n : Nat) : Prop where
  z : B 0 = 0
  st : ∀ i, i < n → B i + 1 ≤ B (i + 1) ∧ B (i + 1) ≤ B i + 5
  nn : n ≤ 12

theorem BOK.mono {B : Nat → Int} {n : Nat} (h : BOK B n) : ∀ j i, i ≤ j → j ≤ n → B i ≤ B j
  | 0, i, hi, _ => by rw [Nat.le_zero.1 hi]; exact Int.le_refl _
  | j + 1, i, hi, hj => by
    rcases Nat.lt_or_ge i (j + 1) with h1 | h1
    · have := h.mono j i (by omega) (by omega)
      have := (h.st j (by omega)).1
      omega
    · rw [show i = j + 1 by omega]; exact Int.le_refl _

theorem BOK.le5 {B : Nat → Int} {n : Nat} (h : BOK B n) : ∀ j, j ≤ n → 0 ≤ B j ∧ B j ≤ 5 * (j : Int)
  | 0, _ => by rw [h.z]; omega
  | j + 1, hj => by
    have := h.le5 j (by omega)
    have := h.st j (by omega)
    omega

theorem BOK.top {B : Nat → Int} {n : Nat} (h : BOK B n) {j : Nat} (hj : j ≤ n) : 0 ≤ B j ∧ B j ≤ 60 := by
  have := h.le5 j hj
  have := h.nn
  omega

theorem BOK.cover {B : Nat → Int} {n : Nat} (h : BOK B n) {s : Int} (h0 : 0 ≤ s) : ∀ p, p ≤ n → s < B p → ∃ i, i < p ∧ B i ≤ s ∧ s < B (i + 1)
  | 0, _, hs => by rw [h.z] at hs; omega
  | p + 1, hp, hs => by
    rcases Int.lt_or_le s (B p) with h1 | h1
    · obtain ⟨i, hi, h2⟩ := h.cover h0 p (by omega) h1
      exact ⟨i, by omega, h2⟩
    · exact ⟨p, by omega, h1, hs⟩

theorem BOK.only {B : Nat → Int} {n : Nat} (h : BOK B n) {i p : Nat} {s : Int} (hi : i < n) (hp : p < n) (h1 : B i ≤ s) (h2 : s < B (i + 1)) (h3 : B p ≤ s) (h4 : s < B (p + 1)) : i = p := by
  rcases Nat.lt_trichotomy i p with h5 | h5 | h5
  · have := h.mono p (i + 1) h5 (by omega)
    omega
  · exact h5
  · have := h.mono i (p + 1) h5 (by omega)
    omega

theorem slot8 {seq : Int} (h0 : 0 ≤ seq) (h1 : seq < 256) : slotOf 8 seq = seq.toNat := by
  rw [slotOf, show (2 : Int) ^ 8 = 256 from rfl, Int.emod_eq_of_lt h0 h1]
theorem div8 {seq : Int} (h0 : 0 ≤ seq) (h1 : seq < 256) : seq / 2 ^ 8 = 0 := by
  rw [show (2 : Int) ^ 8 = 256 from rfl]; exact Int.ediv_eq_zero_of_lt h0 h1

theorem shownAt_set {la : List Int} {k seq : Int} (hl : la.length = 258) (k0 : 0 ≤ k) (k1 : k < 256) (h0 : 0 ≤ seq) (h1 : seq < 256) :
    shownAt (la.set (2 + slotOf 8 k) (k / 2 ^ 8)) 2 8 seq = true ↔ (shownAt la 2 8 seq = true ∨ seq = k) := by
  unfold shownAt
  rw [slot8 k0 k1, slot8 h0 h1, div8 k0 k1, div8 h0 h1]
  by_cases e : seq = k
  · subst e
    simp [List.getD, hl, show 2 + seq.toNat < 258 by omega]
  · have hne : 2 + k.toNat ≠ 2 + seq.toNat := by omega
    simp [List.getD, List.getElem?_set_ne hne, e]

theorem shown_run {la : List Int} {lo seq : Int} (hl : la.length = 258) (l0 : 0 ≤ lo) (h0 : 0 ≤ seq) (h1 : seq < 256) : ∀ m : Nat, lo + (m : Int) ≤ 256 →
    (shownAt (showAll la 2 8 lo m) 2 8 seq = true ↔ (shownAt la 2 8 seq = true ∨ (lo ≤ seq ∧ seq < lo + (m : Int))))
  | 0, _ => by simp [showAll]; omega
  | m + 1, hm => by
    rw [showAll_succ, shownAt_set (by rw [showAll_len]; exact hl) (by omega) (by omega) h0 h1, shown_run hl l0 h0 h1 m (by omega)]
    constructor
    · rintro ((h | h) | h)
      · exact .inl h
      · exact .inr (by omega)
      · exact .inr (by omega)
    · rintro (h | h)
      · exact .inl (.inl h)
      · by_cases e : seq = lo + (m : Int)
        · exact .inr e
        · exact .inl (.inr (by omega))

theorem showAll_zero {la : List Int} {lo : Int} : ∀ m : Nat, (showAll la 2 8 lo m).getD 0 0 = la.getD 0 0
  | 0 => by simp [showAll]
  | m + 1 => by
    rw [showAll_succ, List.getD, List.getElem?_set_ne (by omega)]
    exact showAll_zero m
theorem showAll_one {la : List Int} {lo : Int} : ∀ m : Nat, (showAll la 2 8 lo m).getD 1 0 = la.getD 1 0
  | 0 => by simp [showAll]
  | m + 1 => by
    rw [showAll_succ, List.getD, List.getElem?_set_ne (by omega)]
    exact showAll_one m

structure OInv (la : List Int) (B : Nat → Int) (n : Nat) (done : List Bool) : Prop where
  bk : BOK B n
  len : la.length = 258
  v : la.getD 0 0 = B n - 1
  dl : done.length = n
  sh : ∀ seq : Int, 0 ≤ seq → seq < 256 → (shownAt la 2 8 seq = true ↔ ∃ i, i < n ∧ done.getD i false = true ∧ B i ≤ seq ∧ seq < B (i + 1))

theorem OInv.publish {la : List Int} {B : Nat → Int} {n : Nat} {done : List Bool} (h : OInv la B n done) {i : Nat} (hi : i < n) : OInv (showAll la 2 8 (B i) (B (i + 1) - 1 - B i + 1).toNat) B n (done.set i true) := by
  have h1 := h.bk.st i hi
  have h2 := h.bk.top (show i ≤ n by omega)
  refine ⟨h.bk, by rw [showAll_len]; exact h.len, by rw [showAll_zero]; exact h.v, by rw [List.length_set]; exact h.dl, fun seq s0 s1 => ?_⟩
  rw [shown_run h.len h2.1 s0 s1 _ (by omega), h.sh seq s0 s1]
  have hg : ∀ j, (done.set i true).getD j false = if j = i then true else done.getD j false := by
    intro j
    rw [List.getD, List.getElem?_set]
    by_cases e : i = j
    · subst e; simp [h.dl, hi]
    · rw [if_neg e, if_neg (fun h => e h.symm)]; rfl
  constructor
  · rintro (⟨j, hj, hd, hb⟩ | hb)
    · exact ⟨j, hj, by rw [hg]; split; rfl; exact hd, hb⟩
    · exact ⟨i, hi, by rw [hg, if_pos rfl], by omega⟩
  · rintro ⟨j, hj, hd, hb⟩
    rw [hg] at hd
    by_cases e : j = i
    · subst e; exact .inr (by omega)
    · rw [if_neg e] at hd; exact .inl ⟨j, hj, hd, hb⟩

theorem OInv.high {la : List Int} {B : Nat → Int} {n : Nat} {done : List Bool} (h : OInv la B n done) {p : Nat} (hp : p ≤ n) (hd : ∀ i, i < p → done.getD i false = true) (he : p = n ∨ done.getD p false = false) {x : Int} (hx : HiAt la 2 8 0 (B n - 1) x) : x = B p - 1 := by
  have hb := h.bk.top hp
  have hn := h.bk.top (Nat.le_refl n)
  have hm := h.bk.mono n p hp (Nat.le_refl _)
  refine hx.uniq ⟨by omega, .inl (by omega), fun s s0 s1 => ?_, fun hlt => ?_⟩
  · obtain ⟨i, hi, h2⟩ := h.bk.cover s0 p hp (by omega)
    exact (h.sh s s0 (by omega)).2 ⟨i, by omega, hd i hi, h2⟩
  · have hpn : p < n := by
      rcases Nat.lt_or_ge p n with h1 | h1
      · exact h1
      · rw [show p = n by omega] at hlt; omega
    have hdp : done.getD p false = false := by
      rcases he with he | he
      · omega
      · exact he
    have hst := h.bk.st p hpn
    cases hs : shownAt la 2 8 (B p - 1 + 1) with
    | false => rfl
    | true =>
      obtain ⟨j, hj, hdj, h2, h3⟩ := (h.sh (B p - 1 + 1) (by omega) (by omega)).1 hs
      have := h.bk.only hj hpn h2 h3 (by omega) (by omega)
      rw [this, hdp] at hdj
      cases hdj

/-- Behind all claims, none of which is published. -/
theorem OInv.start {la : List Int} {B : Nat → Int} {n : Nat} (hb : BOK B n) (hl : la.length = 258) (hv : la.getD 0 0 = B n - 1) (hm : ∀ i, i < 256 → la.getD (2 + i) 0 = -1) : OInv la B n (List.replicate n false) := by
  refine ⟨hb, hl, hv, by simp, fun seq s0 s1 => ?_⟩
  unfold shownAt
  rw [slot8 s0 s1, div8 s0 s1, hm seq.toNat (by omega)]
  constructor
  · intro h; simp at h
  · rintro ⟨i, hi, hd, _⟩
    simp [List.getD, hi] at hd
end Go.Proofs.YtoifknfmamcimaaDoor
