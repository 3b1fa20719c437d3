/- Contracts of Of at sizes that are none, of Up, Shift, Mask of package pow, of bits.Len, and of the document's Shift and Up. No condition beyond each contract's own. -/
import Derived.Test.YtiphdedfbafhkaaGreatDoorPow4
namespace Go.Proofs.YtiphdedfbafhkaaGreatDoor
open Go.RowKit

/-- No power of two among the sizes. -/
def NoPow (n : Int) : Prop := ∀ k : Nat, k < 21 → n ≠ ((2 ^ k : Nat) : Int)

theorem and_pow (n : Int) (h1 : 1 ≤ n) (h2 : n ≤ 1048576) (h : NoPow n) : (bits BinOp.and IntKind.i64 n (n - 1) != 0) = true := by
  obtain ⟨m, rfl⟩ := Int.eq_ofNat_of_zero_le (show 0 ≤ n by omega)
  have hm : ((m : Int) - 1) = ((m - 1 : Nat) : Int) := by omega
  have e : bits BinOp.and IntKind.i64 (m : Int) ((m : Int) - 1) = ((m &&& (m - 1) : Nat) : Int) := by
    show IntKind.i64.wrap ((BitVec.ofInt 64 (m : Int) &&& BitVec.ofInt 64 ((m : Int) - 1)).toNat : Int) = _
    rw [BitVec.toNat_and, hm, BitVec.ofInt_natCast, BitVec.ofInt_natCast, BitVec.toNat_ofNat, BitVec.toNat_ofNat, Nat.mod_eq_of_lt (by omega), Nat.mod_eq_of_lt (by omega), IntKind.wrap_i64]
    have := Nat.and_le_left (n := m) (m := m - 1)
    omega
  rw [e]
  by_cases hz : m &&& (m - 1) = 0
  · obtain ⟨k, hk⟩ := (Nat.and_sub_one_eq_zero_iff_isPowerOfTwo (by omega)).1 hz
    have hk21 : k < 21 := by
      rcases Nat.lt_or_ge k 21 with hlt | hge
      · exact hlt
      · have : 2 ^ 21 ≤ 2 ^ k := Nat.pow_le_pow_right (by decide) hge
        omega
    exact absurd (by rw [hk]) (h k hk21)
  · simp; omega

theorem of_bad (c : Nat → Nat) (n : Int) (h : NoPow n) (w : World) :
    Calls Tryz.prog 51 #[.int .i64 n] w fun e w' => ∃ ev, e = .returned (.tuple #[.agg #[.int .i64 0], ev]) ∧ ∃ c', Stp (fun _ => False) c c' w w' ∧ ErrAt c' w' ev 7 := by
  by_cases h0 : n < 1
  · have t1 : decide (n < 1) = true := by simpa using h0
    clear h h0
    go_enter Tryz.func51, Tryz.ntmps51
    go_wp2_with (go_at_call 50; refine (wrap_some _ _ _ _ _).mono ?_; rintro e w' ⟨rfl, rfl⟩)
    refine bodyPost_ret (v := .tuple #[.agg #[.int .i64 0], .iface 179 (.pointer (some ⟨w.heap.size + 1, 0, none⟩))]) (by simp [results, Tryz.results51, go_sem]) rfl ⟨_, rfl, paint (paint c w.heap.size 2) (w.heap.size + 1) 1, Stp.allocG (Stp.allocG (Stp.refl _ c w) rfl) (by simp), ErrAt.newAt (by simp) (by simp)⟩
  · have t1 : decide (n < 1) = false := by simpa using h0
    by_cases h1 : 1048576 < n
    · have t2 : decide ((1048576 : Int) < n) = true := by simpa using h1
      clear h h0
      go_enter Tryz.func51, Tryz.ntmps51
      go_wp2_with (go_at_call 50; refine (wrap_some _ _ _ _ _).mono ?_; rintro e w' ⟨rfl, rfl⟩)
      refine bodyPost_ret (v := .tuple #[.agg #[.int .i64 0], .iface 179 (.pointer (some ⟨w.heap.size + 1, 0, none⟩))]) (by simp [results, Tryz.results51, go_sem]) rfl ⟨_, rfl, paint (paint c w.heap.size 2) (w.heap.size + 1) 1, Stp.allocG (Stp.allocG (Stp.refl _ c w) rfl) (by simp), ErrAt.newAt (by simp) (by simp)⟩
    · have t2 : decide ((1048576 : Int) < n) = false := by simpa using h1
      have t3 := and_pow n (by omega) (by omega) h
      have b0 : 1 ≤ n := by omega
      have b1 : n ≤ 1048576 := by omega
      clear h h0 h1
      go_enter Tryz.func51, Tryz.ntmps51
      go_wp2_with (go_at_call 50; refine (wrap_some _ _ _ _ _).mono ?_; rintro e w' ⟨rfl, rfl⟩)
      refine bodyPost_ret (v := .tuple #[.agg #[.int .i64 0], .iface 179 (.pointer (some ⟨w.heap.size + 1, 0, none⟩))]) (by simp [results, Tryz.results51, go_sem]) rfl ⟨_, rfl, paint (paint c w.heap.size 2) (w.heap.size + 1) 1, Stp.allocG (Stp.allocG (Stp.refl _ c w) rfl) (by simp), ErrAt.newAt (by simp) (by simp)⟩

theorem mask_k (k : Nat) (hk : k < 21) (w : World) : Calls Tryz.prog 124 #[.agg #[.int .i64 k]] w (fun e w' => e = .returned (.int .i64 (2 ^ k - 1)) ∧ (w.alloc (.cells #[.int .i64 k] 65)).alloc (.cells #[.int .i64 k] 65) = w') := by
  have h := wrap_two_pow k hk
  have hb := two_pow_bd k hk
  go_enter Tryz.func124, Tryz.ntmps124
  go_wp2_with (go_at_call 30; refine (slots_k k hk _).mono ?_; rintro e w' ⟨rfl, rfl⟩)
  go_ret
  exact ⟨rfl, rfl⟩

theorem pow_next (j : Nat) : ((2 ^ (j + 1) : Nat) : Int) = ((2 ^ j : Nat) : Int) * 2 := by rw [Nat.pow_succ]; simp
theorem pow_le20 (j : Nat) (h : j < 21) : (1 : Int) ≤ ((2 ^ j : Nat) : Int) ∧ ((2 ^ j : Nat) : Int) ≤ 1048576 := by
  have h1 : 1 ≤ 2 ^ j := Nat.one_le_two_pow
  have h2 : 2 ^ j ≤ 2 ^ 20 := Nat.pow_le_pow_right (by decide) (by omega)
  omega
theorem pow_lt (j k : Nat) (h : j < k) : ((2 ^ j : Nat) : Int) < ((2 ^ k : Nat) : Int) := by
  have : 2 ^ j < 2 ^ k := Nat.pow_lt_pow_right (by decide) h
  omega

def ShRel (b : Nat) (p i : Value) : Prop := ∃ (j : Nat) (q : Int), p = .int .i64 q ∧ i = .int .i64 j ∧ j ≤ b ∧ q = ((2 ^ j : Nat) : Int)

def Bits (x : Int) (v : Nat) : Prop := v < 21 ∧ x < ((2 ^ v : Nat) : Int) ∧ (0 < v → ((2 ^ (v - 1) : Nat) : Int) ≤ x)

/-- The least power of two that is enough. -/
def UpTo (n : Int) (v : Nat) : Prop := v < 21 ∧ n ≤ ((2 ^ v : Nat) : Int) ∧ ∀ j : Nat, j < v → ((2 ^ j : Nat) : Int) < n

theorem UpTo.uniq {n : Int} {u v : Nat} (h : UpTo n u) (k : UpTo n v) : u = v := by
  rcases Nat.lt_trichotomy u v with h1 | h1 | h1
  · have := k.2.2 u h1; have := h.2.1; omega
  · exact h1
  · have := h.2.2 v h1; have := k.2.1; omega

theorem upTo_pow (k : Nat) (hk : k < 21) : UpTo ((2 ^ k : Nat) : Int) k := ⟨hk, Int.le_refl _, fun j hj => pow_lt j k hj⟩

theorem bits_up {n : Int} {u : Nat} (h : Bits (n - 1) u) : UpTo n u := by
  obtain ⟨h3, h4, h5⟩ := h
  refine ⟨h3, by omega, fun j hj => ?_⟩
  have h6 := h5 (by omega)
  rcases Nat.lt_or_ge j (u - 1) with h7 | h7
  · have := pow_lt j (u - 1) h7; omega
  · rw [show j = u - 1 by omega]; omega

theorem upTo_ex (n : Int) (h : n ≤ 1048576) : ∃ v, UpTo n v := by
  have key : ∀ m : Nat, m < 21 → n ≤ ((2 ^ m : Nat) : Int) → ∃ v, UpTo n v := by
    intro m
    induction m with
    | zero => exact fun h0 h1 => ⟨0, h0, h1, fun j hj => absurd hj (by omega)⟩
    | succ m ih =>
      intro h0 h1
      by_cases h2 : n ≤ ((2 ^ m : Nat) : Int)
      · exact ih (by omega) h2
      · refine ⟨m + 1, h0, h1, fun j hj => ?_⟩
        rcases Nat.lt_or_ge j m with h3 | h3
        · have := pow_lt j m h3; omega
        · rw [show j = m by omega]; omega
  exact key 20 (by decide) (by simpa using h)

/-- The table of bits.Len64, as a walk leaves it: each byte is its index's number of bits. -/
def lenTab (T : ByteArray) : Bool := (List.range T.size).all fun j => decide ((T.data.getD j 0).toNat < 9 ∧ j < 2 ^ (T.data.getD j 0).toNat) && (decide ((T.data.getD j 0).toNat = 0) || decide (2 ^ ((T.data.getD j 0).toNat - 1) ≤ j))

theorem wrap_u8 (y : UInt8) : wrap64 (y.toNat : Int) = y.toNat := by
  have := y.toNat_lt
  exact IntWalk.wrap64_in _ ⟨by omega, by omega⟩

theorem lenTab_at {T : ByteArray} (hT : lenTab T = true) (i : Nat) (h : i < T.size) : T[i].toNat < 9 ∧ i < 2 ^ T[i].toNat ∧ (0 < T[i].toNat → 2 ^ (T[i].toNat - 1) ≤ i) := by
  have h1 := List.all_eq_true.1 hT i (by simpa using h)
  have e : T.data.getD i 0 = T[i] := by
    unfold Array.getD
    exact dif_pos h
  rw [e] at h1
  simp only [Bool.and_eq_true, Bool.or_eq_true, decide_eq_true_eq] at h1
  exact ⟨h1.1.1, h1.1.2, fun h0 => h1.2.resolve_left (by omega)⟩

theorem fin_lo {T : ByteArray} {x : Int} (h0 : 0 ≤ x) (hi : x.toNat < T.size) (hT : lenTab T = true) (w : World) :
    ∃ v : Nat, Ending.returned (.int .i64 (wrap64 (wrap64 (T[x.toNat].toNat : Int)))) = .returned (.int .i64 v) ∧ Bits x v ∧ w = w := by
  obtain ⟨h1, h2, h3⟩ := lenTab_at hT _ hi
  refine ⟨_, by rw [wrap_u8, wrap_u8], ⟨by omega, by omega, fun hv => ?_⟩, rfl⟩
  have := h3 hv
  omega

theorem fin_up {T : ByteArray} {x : Int} (s d : Nat) (hd : d = 2 ^ s) (hs : s = 8 ∨ s = 16) (h0 : (d : Int) ≤ x) (h1 : x / (d : Int) < 256) (h2 : s = 16 → x / (d : Int) < 16) (hi : (x / (d : Int)).toNat < T.size) (hT : lenTab T = true) (w : World) :
    ∃ v : Nat, Ending.returned (.int .i64 (wrap64 ((s : Int) + wrap64 (T[(x / (d : Int)).toNat].toNat : Int)))) = .returned (.int .i64 v) ∧ Bits x v ∧ w = w := by
  obtain ⟨h3, h4, h5⟩ := lenTab_at hT _ hi
  have hdp : (0 : Int) < d := by rw [hd]; have : 1 ≤ 2 ^ s := Nat.one_le_two_pow; omega
  have q0 : 1 ≤ x / (d : Int) := by
    have := Int.le_ediv_of_mul_le (a := 1) (b := x) (c := d) hdp (by omega)
    exact this
  generalize T[(x / (d : Int)).toNat].toNat = t at *
  have ht : 0 < t := by
    rcases Nat.eq_zero_or_pos t with h | h
    · subst h; simp at h4; omega
    · exact h
  have h5' := h5 ht
  have ew : wrap64 (t : Int) = t := IntWalk.wrap64_in _ ⟨by omega, by omega⟩
  have eq1 : x / (d : Int) * d ≤ x := Int.ediv_mul_le _ (by omega)
  have eq2 : x < (x / (d : Int) + 1) * d := Int.lt_ediv_add_one_mul_self _ hdp
  refine ⟨s + t, by rw [ew, IntWalk.wrap64_in _ ⟨by omega, by omega⟩]; congr, ⟨?_, ?_, fun _ => ?_⟩, rfl⟩
  · rcases hs with rfl | rfl
    · omega
    · have h6 := h2 rfl
      have : t < 5 := by
        rcases Nat.lt_or_ge t 5 with h | h
        · exact h
        · have : 2 ^ 4 ≤ 2 ^ (t - 1) := Nat.pow_le_pow_right (by decide) (by omega)
          omega
      omega
  · rw [Nat.pow_add, ← hd]
    have h7 : x / (d : Int) + 1 ≤ ((2 ^ t : Nat) : Int) := by omega
    have h8 := Int.mul_le_mul_of_nonneg_right h7 (show (0 : Int) ≤ d by omega)
    rw [Int.natCast_mul, Int.mul_comm]
    omega
  · rw [show s + t - 1 = s + (t - 1) by omega, Nat.pow_add, ← hd]
    have h7 : ((2 ^ (t - 1) : Nat) : Int) ≤ x / (d : Int) := by omega
    have h8 := Int.mul_le_mul_of_nonneg_right h7 (show (0 : Int) ≤ d by omega)
    rw [Int.natCast_mul, Int.mul_comm]
    omega

end Go.Proofs.YtiphdedfbafhkaaGreatDoor
