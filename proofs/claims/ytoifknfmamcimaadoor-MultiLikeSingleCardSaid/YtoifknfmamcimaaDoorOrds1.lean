/- The contract of norialaw10.upTo. No condition beyond the contract's own. -/
import Derived.Test.YtoifknfmamcimaaDoorOrdLaw
import Derived.Test.YtoifknfmamcimaaDoorMul9
import Derived.Test.YtoifknfmamcimaaDoorFinDoor
namespace Go.Proofs.YtoifknfmamcimaaDoor
open Go.RowKit

def hiL (B : Nat → Int) (n : Nat) : List Int := (List.range n).map (fun i => B (i + 1) - 1)
def loL (B : Nat → Int) (n : Nat) : List Int := (List.range n).map B
theorem hiL_get {B : Nat → Int} {n j : Nat} (h : j < n) : (hiL B n).getD j 0 = B (j + 1) - 1 := by simp [hiL, List.getD, h]
theorem loL_get {B : Nat → Int} {n j : Nat} (h : j < n) : (loL B n).getD j 0 = B j := by simp [loL, List.getD, h]
theorem hiL_succ (B : Nat → Int) (n : Nat) : hiL B (n + 1) = hiL B n ++ [B (n + 1) - 1] := by simp [hiL, List.range_succ]
theorem loL_succ (B : Nat → Int) (n : Nat) : loL B (n + 1) = loL B n ++ [B n] := by simp [loL, List.range_succ]

theorem or_b {b : Int} (h : 0 ≤ b ∧ b ≤ 60) : b - 1 ≤ 4611686018427387904 ∧ -9223372036854775808 ≤ b - 1 := by omega
theorem or_w {j : Nat} (h : j ≤ 100) : wrap64 ((j : Int) + 1) = (j : Int) + 1 := IntWalk.wrap64_in _ (by constructor <;> omega)
theorem or_meas (m j : Nat) (h : j < m) (hm : j ≤ 100) : m - (intOf (.int .i64 (wrap64 ((j : Int) + 1)))).toNat < m - (intOf (.int .i64 (j : Int))).toNat := by
  rw [or_w hm]
  show m - ((j : Int) + 1).toNat < m - (j : Int).toNat
  omega
theorem or_len {la : List Int} (h : la.length = 258) : 2 + 2 ^ 8 ≤ la.length := by rw [h]; decide
theorem or_pos {la : List Int} (h : la.length = 258) : 0 < la.length := by rw [h]; decide

section
variable {c : Nat → Nat} {K : Nat} {w : World} {p q bp gp : Nat} {la : List Int}
set_option maxRecDepth 100000 in
theorem upto_ok {B : Nat → Int} {n : Nat} {done : List Bool} {kd kh d hcap : Nat} {ho : Option Addr} (ha : ArenaS c K w q la) (hB : SeqIs c (K + 1) w p q bp gp ⟨8, 0, 1, 2, []⟩) (hi : OInv la B n done) (hd : Blk c kd w d (done.map Value.bool) 4) (hh : In c kh w 1 ho n hcap ((hiL B n).map (Value.int .i64))) :
    Calls Tryd.prog 25 #[.pointer (some ⟨p, 0, none⟩), .slice (some ⟨d, 0, none⟩) n n, .slice ho n hcap] w fun e w' => e = .returned (.bool true) ∧ ∃ c', Stp (· = K) c c' w w' ∧ ArenaS c' K w' q la ∧ SeqIs c' (K + 1) w' p q bp gp ⟨8, 0, 1, 2, []⟩ := by
  have HA := Lib.hid ha
  have HB := Lib.hid hB
  have HI := Lib.hid hi
  have HD := Lib.hid hd
  have HH := Lib.hid hh
  have Hn := Lib.hid hi.bk.nn
  have dl := hd.lt
  have Hb0 := Lib.hid hi.bk.z
  clear ha hB hi hd hh
  go_enter Tryd.func25, Tryd.ntmps25
  go_wp2
  go_loop [7, 13] (fun v i => ∃ j : Nat, i = .int .i64 j ∧ v = .int .i64 (B j - 1) ∧ Hid (j ≤ n) ∧ Hid (∀ t, t < j → done.getD t false = true)) (fun _ i => n - (intOf i).toNat)
  case atStart => exact ⟨0, rfl, by rw [Hb0.out]; rfl, Lib.hid (Nat.zero_le _), Lib.hid (fun t h => absurd h (Nat.not_lt_zero _))⟩
  case round =>
    obtain ⟨j, rfl, rfl, hj, hdj⟩ := hrel
    by_cases hlt : j < n
    · have hdc : w.cell? ⟨d, j, none⟩ = some (.bool (done.getD j false)) := by
        rw [HD.out.cell j]
        simp [List.getD, HI.out.dl, hlt]
      obtain ⟨a, ha, hc⟩ := HH.out.ints hlt
      subst ha
      rw [hiL_get hlt] at hc
      have Hlt := Lib.hid hlt
      obtain ⟨bj, hbj⟩ : ∃ bj, bj = B j - 1 := ⟨_, rfl⟩
      obtain ⟨bs, hbs⟩ : ∃ bs, bs = B (j + 1) - 1 := ⟨_, rfl⟩
      rw [← hbs] at hc
      rw [← hbj]
      have Hbj := Lib.hid hbj
      have Hbs := Lib.hid hbs
      have W8 := or_w (j := j) (Nat.le_trans (Nat.le_of_lt hlt) (Nat.le_trans Hn.out (by decide)))
      clear hbj hbs
      cases hb : done.getD j false with
      | true =>
        rw [hb] at hdc
        have Hb := Lib.hid hb
        clear hb
        go_wp2
        go_round
        case rel => exact ⟨j + 1, by go_num, by rw [← Hbs.out], Lib.hid Hlt.out, Lib.hid (fun t h => by
          rcases Nat.lt_or_ge t j with h1 | h1
          · exact hdj.out t h1
          · rw [show t = j by omega]; exact Hb.out)⟩
        case measure => exact or_meas n j Hlt.out (Nat.le_trans (Nat.le_of_lt Hlt.out) (Nat.le_trans Hn.out (by decide)))
      | false =>
        rw [hb] at hdc
        have Hb := Lib.hid hb
        clear hb
        go_wp2_with fail
        refine (mhigh_ok HA.out HB.out (v := B n - 1) (or_pos HI.out.len) HI.out.v 0 (or_len HI.out.len) (Int.le_refl _) (by decide) (or_b (HI.out.bk.top (Nat.le_refl _))).1 (or_b (HI.out.bk.top (Nat.le_refl _))).2).mono ?_
        rintro e w2 ⟨x, rfl, hx, c2, s2, h2, q2⟩
        have E := Lib.hid (HI.out.high (Nat.le_of_lt Hlt.out) hdj.out (.inr Hb.out) hx)
        have S2 := Lib.hid s2
        have H2 := Lib.hid h2
        have Q2 := Lib.hid q2
        rw [E.out, ← Hbj.out]
        clear hx s2 h2 q2
        go_wp2
        go_ret
        exact ⟨by first | rfl | simp, c2, S2.out, H2.out, Q2.out⟩
    · have Hjn := Lib.hid (show j = n by have := hj.out; omega)
      obtain ⟨bj, hbj⟩ : ∃ bj, bj = B j - 1 := ⟨_, rfl⟩
      rw [← hbj]
      have Hbj := Lib.hid hbj
      clear hbj
      go_wp2_with fail
      refine (mhigh_ok HA.out HB.out (v := B n - 1) (or_pos HI.out.len) HI.out.v 0 (or_len HI.out.len) (Int.le_refl _) (by decide) (or_b (HI.out.bk.top (Nat.le_refl _))).1 (or_b (HI.out.bk.top (Nat.le_refl _))).2).mono ?_
      rintro e w2 ⟨x, rfl, hx, c2, s2, h2, q2⟩
      have E := Lib.hid (HI.out.high hj.out hdj.out (.inl Hjn.out) hx)
      have S2 := Lib.hid s2
      have H2 := Lib.hid h2
      have Q2 := Lib.hid q2
      rw [E.out, ← Hbj.out]
      clear hx s2 h2 q2
      go_wp2
      go_ret
      exact ⟨by first | rfl | simp, c2, S2.out, H2.out, Q2.out⟩
end
end Go.Proofs.YtoifknfmamcimaaDoor
