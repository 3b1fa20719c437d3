/- Contracts of the document's Is and Highest of layer 7, and how they go with a buffer's cells. No condition beyond each contract's own. -/
import Derived.Test.YtoifknfmamcimaaDoorAvail2
import Derived.Deep.QuietTactic
import Derived.BigQuiet
namespace Go.Proofs.YtoifknfmamcimaaDoor
open Go.RowKit

/-- Was an index the last that was shown at its slot? -/
def refIs (l : List Int) (m seq : Int) : Bool := match l.reverse.find? (fun x => x % m == seq % m) with
  | some x => x == seq
  | none => false

theorem refIs_nil (m seq : Int) : refIs [] m seq = false := rfl
theorem refIs_snoc (l : List Int) (k m seq : Int) : refIs (l ++ [k]) m seq = if k % m = seq % m then k == seq else refIs l m seq := by
  unfold refIs
  rw [List.reverse_append]
  simp only [List.reverse_cons, List.reverse_nil, List.nil_append, List.cons_append, List.find?_cons]
  by_cases h : k % m = seq % m
  · simp [h]
  · have h' : (k % m == seq % m) = false := by simpa using h
    rw [if_neg h, h']

theorem r07is_any {c : Nat → Nat} {k : Nat} {w : World} {ao : Option Addr} {n cap : Nat} {l : List Int} (h : In c k w 1 ao n cap (l.map (Value.int .i64))) (m seq : Int) (hpos : ∀ x ∈ l, 0 ≤ x) (h0 : 0 ≤ seq) (m1 : 1 ≤ m) :
    Calls Tryd.prog 63 #[.slice ao n cap, .int .i64 m, .int .i64 seq] w fun e w' => e = .returned (.bool (refIs l m seq)) ∧ Stp (fun _ => False) c c w w' := by
  have hl : l.length = n := by simpa using h.1
  have hm : n ≤ 9223372036854775807 := by have h1 := h.2.1; have h2 := h.2.2.1; simp only [maxLen] at h2; omega
  have H := Lib.hid h
  have Hl := Lib.hid hl
  have Hp := Lib.hid hpos
  have z1 : (m == 0) = false := by simp; omega
  have z2 : (m == -1) = false := by simp; omega
  clear h hl hpos
  go_enter Tryd.func63, Tryd.ntmps63
  go_wp2
  go_loopw [7] (fun i wr => ∃ j : Nat, i = .int .i64 ((j : Int) - 1) ∧ j ≤ n ∧ Hid (refIs l m seq = refIs (l.take j) m seq) ∧ Stp (fun _ => False) c c w wr) (fun i _ => (intOf i + 1).toNat)
  case atStart => exact ⟨n, rfl, Nat.le_refl _, Lib.hid (by rw [← Hl.out, List.take_length]), Stp.refl _ _ _⟩
  case round =>
    obtain ⟨j, rfl, hj, hr, st⟩ := hrel
    have St := Lib.hid st
    match j, hj, hr with
    | 0, hj, hr =>
      clear st
      have Hr := Lib.hid hr.out
      go_wp2
      go_ret
      exact ⟨by rw [Hr.out]; rfl, St.out⟩
    | j + 1, hj, hr =>
      have hjl : j < l.length := by rw [Hl.out]; omega
      obtain ⟨a, ha, hc⟩ := (H.out.stp st id).ints (j := j) (by omega)
      subst ha
      have hx0 := Hp.out (l.getD j 0) (by simp [List.getD, hjl])
      have Hs := Lib.hid (show refIs l m seq = (if (l.getD j 0) % m = seq % m then (l.getD j 0) == seq else refIs (l.take j) m seq) by
        rw [hr.out, List.take_succ_eq_append_getElem hjl, refIs_snoc]
        simp [List.getD, hjl])
      generalize l.getD j 0 = x at *
      have i0 : decide ((j : Int) < 0) = false := by simp
      have i1 : (0 : Int) ≤ (j : Int) := by omega
      have i2 : (j : Int) < (n : Int) := by omega
      have ej : ((j + 1 : Nat) : Int) - 1 = (j : Int) := by omega
      rw [ej]
      clear st hr ej
      by_cases he : x % m = seq % m
      · have He := Lib.hid he
        have t : (x % m == seq % m) = true := by simpa using he
        clear he
        go_wp2
        go_quiet (fail)
        have hc2 : (wr.drewN nq).cell? (a.add j) = some (.int .i64 x) := hc
        go_wp2
        go_ret
        exact ⟨by rw [Hs.out, if_pos He.out]; rfl, St.out.drewN _⟩
      · have He := Lib.hid he
        have t : (x % m == seq % m) = false := by simpa using he
        clear he
        go_wp2
        go_quiet (fail)
        go_wp2
        go_roundw
        case rel => exact ⟨j, by go_num, by omega, Lib.hid (by rw [Hs.out, if_neg He.out]), St.out.drewN _⟩
        case measure => simp [intOf]

theorem r07high_any {c : Nat → Nat} {k : Nat} {w : World} {ao : Option Addr} {n cap : Nat} {l : List Int} (h : In c k w 1 ao n cap (l.map (Value.int .i64))) (m lo hi : Int) (hpos : ∀ x ∈ l, 0 ≤ x) (h0 : 0 ≤ lo) (h1 : lo ≤ 4611686018427387904) (h2 : hi ≤ 4611686018427387904) (h3 : -9223372036854775808 ≤ hi) (m1 : 1 ≤ m) :
    Calls Tryd.prog 59 #[.slice ao n cap, .int .i64 m, .int .i64 lo, .int .i64 hi] w fun e w' => ∃ x, e = .returned (.int .i64 x) ∧ lo - 1 ≤ x ∧ (x ≤ hi ∨ x = lo - 1) ∧ (∀ s : Int, lo ≤ s → s ≤ x → refIs l m s = true) ∧ (x < hi → refIs l m (x + 1) = false) ∧ Stp (fun _ => False) c c w w' := by
  have H := Lib.hid h
  have Hp := Lib.hid hpos
  clear h hpos
  go_enter Tryd.func59, Tryd.ntmps59
  go_wp2
  go_loopw [9] (fun i wr => ∃ j : Nat, i = .int .i64 (lo - 1 + (j : Int)) ∧ (lo - 1 + (j : Int) ≤ hi ∨ j = 0) ∧ Hid (∀ t : Nat, t < j → refIs l m (lo + t) = true) ∧ Stp (fun _ => False) c c w wr) (fun i _ => (hi - intOf i).toNat)
  case atStart => exact ⟨0, by simp, .inr rfl, Lib.hid (fun t ht => absurd ht (by omega)), Stp.refl _ _ _⟩
  case round =>
    obtain ⟨j, rfl, hj, hr, st⟩ := hrel
    have St := Lib.hid st
    clear st
    by_cases hlt : lo - 1 + (j : Int) < hi
    · have t1 : decide (lo - 1 + (j : Int) < hi) = true := by simpa using hlt
      have k0 : 0 ≤ lo - 1 + (j : Int) + 1 := by omega
      have k1 : lo - 1 + (j : Int) + 1 ≤ 4611686018427387904 := by omega
      have k2 : -1 ≤ lo - 1 + (j : Int) := by omega
      clear hj
      go_wp2_with fail
      refine (r07is_any (H.out.stp St.out id) m (lo - 1 + (j : Int) + 1) Hp.out k0 m1).mono ?_
      rintro e w2 ⟨rfl, s2⟩
      have S2 := Lib.hid (St.out.trans s2)
      clear s2
      by_cases hs : refIs l m (lo - 1 + (j : Int) + 1) = true
      · have Hs := Lib.hid hs
        rw [hs]
        clear hs
        go_wp2
        go_roundw
        case rel => exact ⟨j + 1, by rw [Int.natCast_add, ← Int.add_assoc]; go_num, .inl (by omega), Lib.hid (fun t ht => by
          rcases Nat.lt_or_ge t j with h | h
          · exact hr.out t h
          · rw [show lo + (t : Int) = lo - 1 + (j : Int) + 1 by omega]; exact Hs.out), S2.out⟩
        case measure => simp [intOf]; omega
      · have hs' : refIs l m (lo - 1 + (j : Int) + 1) = false := by simpa using hs
        have Hs := Lib.hid hs'
        rw [hs']
        clear hs hs'
        go_wp2
        go_ret
        refine ⟨lo - 1 + (j : Int), rfl, by omega, by omega, fun s hs1 hs2 => ?_, fun _ => Hs.out, S2.out⟩
        have := hr.out (s - lo).toNat (by omega)
        rw [show lo + ((s - lo).toNat : Int) = s by omega] at this
        exact this
    · have t1 : decide (lo - 1 + (j : Int) < hi) = false := by simpa using hlt
      have Hj := Lib.hid hj
      clear hj
      go_wp2
      go_ret
      refine ⟨lo - 1 + (j : Int), rfl, by omega, by have := Hj.out; omega, fun s hs1 hs2 => ?_, fun hh => by omega, St.out⟩
      have := hr.out (s - lo).toNat (by omega)
      rw [show lo + ((s - lo).toNat : Int) = s by omega] at this
      exact this

/-- How a buffer's cells and all that was shown go together. -/
def ShownAs (la shown : List Int) (first sh : Nat) : Prop := ∀ seq : Int, 0 ≤ seq → shownAt la first sh seq = refIs shown (2 ^ sh) seq

theorem ShownAs.start (la0 : List Int) (sh : Nat) (hsh : sh < 21) : ShownAs (la0 ++ List.replicate (2 ^ sh) (-1)) [] la0.length sh := by
  intro seq hs
  have hb := two_pow_bd sh hsh
  have hq : 0 ≤ seq / 2 ^ sh := Int.ediv_nonneg hs (by omega)
  have hj := (slotOf_lt sh seq hsh).1
  have hv : (la0 ++ List.replicate (2 ^ sh) (-1)).getD (la0.length + slotOf sh seq) 0 = -1 := by
    rw [List.getD_eq_getElem?_getD, List.getElem?_append_right (by omega)]
    simp [hj]
  unfold shownAt
  rw [hv, refIs_nil]
  simp
  omega

theorem ShownAs.put {la shown : List Int} {first sh : Nat} (hsh : sh < 21) (h : ShownAs la shown first sh) (hl : first + 2 ^ sh ≤ la.length) (k : Int) (_hk : 0 ≤ k) :
    ShownAs (la.set (first + slotOf sh k) (k / 2 ^ sh)) (shown ++ [k]) first sh := by
  intro seq hs
  rw [refIs_snoc]
  have hj := (slotOf_lt sh k hsh).1
  by_cases he : slotOf sh k = slotOf sh seq
  · have hm : k % 2 ^ sh = seq % 2 ^ sh := by rw [← (slotOf_lt sh k hsh).2, ← (slotOf_lt sh seq hsh).2, he]
    rw [if_pos hm]
    unfold shownAt
    rw [he, List.getD_eq_getElem?_getD, List.getElem?_set_self (by omega), Option.getD_some, Bool.eq_iff_iff, beq_iff_eq, beq_iff_eq]
    constructor
    · intro hd
      have e1 := Int.mul_ediv_add_emod k (2 ^ sh)
      have e2 := Int.mul_ediv_add_emod seq (2 ^ sh)
      rw [hd, hm] at e1
      omega
    · rintro rfl; rfl
  · have hm : ¬ k % 2 ^ sh = seq % 2 ^ sh := fun e => he (by unfold slotOf; rw [e])
    rw [if_neg hm, ← h seq hs]
    unfold shownAt
    rw [List.getD_eq_getElem?_getD, List.getElem?_set_ne (by omega), List.getD_eq_getElem?_getD]

/-- The indexes from lo on, so many. -/
def runOf (lo : Int) (n : Nat) : List Int := (List.range n).map fun i => lo + (i : Nat)
theorem runOf_succ (lo : Int) (n : Nat) : runOf lo (n + 1) = runOf lo n ++ [lo + (n : Nat)] := by simp [runOf, List.range_succ]

theorem ShownAs.run {la shown : List Int} {first sh : Nat} (hsh : sh < 21) (h : ShownAs la shown first sh) (hl : first + 2 ^ sh ≤ la.length) (lo : Int) (h0 : 0 ≤ lo) : ∀ n : Nat, ShownAs (showAll la first sh lo n) (shown ++ runOf lo n) first sh
  | 0 => by simpa [showAll, runOf] using h
  | n + 1 => by
    rw [showAll_succ, runOf_succ, ← List.append_assoc]
    exact (ShownAs.run hsh h hl lo h0 n).put hsh (by rw [showAll_len]; exact hl) _ (by omega)

theorem showAll_low {la : List Int} {first sh : Nat} {lo : Int} {i : Nat} (hi : i < first) : ∀ n : Nat, (showAll la first sh lo n)[i]? = la[i]?
  | 0 => rfl
  | n + 1 => by rw [showAll_succ, List.getElem?_set_ne (by omega)]; exact showAll_low hi n
end Go.Proofs.YtoifknfmamcimaaDoor
