/- Contracts of a barrier's New, Alert, After, of a settled probe's Step, of Show with its steps counted. No condition beyond each contract's own. -/
import Derived.Test.YtiphdedfbafhkaaGreatDoorBar1
import Derived.Test.YtiphdedfbafhkaaGreatDoorCells4
namespace Go.Proofs.YtiphdedfbafhkaaGreatDoor
open Go.RowKit

def ShowRelN (c : Nat → Nat) (ka : Nat) (w : World) (q : Nat) (l : List Int) (s : Int) (first sh : Nat) (lo hi : Int) (i : Value) (wr : World) : Prop :=
  ∃ (c' : Nat → Nat) (j : Nat), i = .int .i64 (lo + j) ∧ lo + j ≤ hi + 1 ∧ Stp (· = ka) c c' w wr ∧ ArenaAt c' ka wr q (showAll l first sh lo j) (s + j)

/-- Show of indexes that may be, its steps counted. -/
theorem avshow_n {c : Nat → Nat} {kb ka : Nat} {w : World} {p q sh first : Nat} {l : List Int} {s : Int} (hb : BufAt c kb w p sh first) (ha : ArenaAt c ka w q l s) (hne : kb ≠ ka) (hl : first + 2 ^ sh ≤ l.length) (lo hi : Int) (h0 : 0 ≤ lo) (h1 : lo ≤ hi) (h2 : hi ≤ 4611686018427387904) (h3 : hi - lo < 2 ^ sh) (s0 : 0 ≤ s) (s1 : s + (hi - lo) < 4611686018427387903) :
    Calls Tryz.prog 107 #[.pointer (some ⟨p, 0, none⟩), .pointer (some ⟨q, 0, none⟩), .int .i64 lo, .int .i64 hi] w fun e w' => e = .returned .nilIface ∧ ∃ c', Stp (· = ka) c c' w w' ∧
      ArenaAt c' ka w' q (showAll l first sh lo (hi - lo + 1).toNat) (s + (hi - lo + 1)) := by
  have Hl := Lib.hid hl
  have Hb := Lib.hid hb
  have Ha := Lib.hid ha
  have Hs0 := Lib.hid s0
  have Hs1 := Lib.hid s1
  obtain ⟨hsh, _, hbb⟩ := hb
  have c0 := hbb.cell 0
  simp at c0
  have t0 : decide (hi < lo) = false := by simp; omega
  have t1 : decide ((4611686018427387904 : Int) < hi) = false := by simp; omega
  have t2 : decide ((2 : Int) ^ sh ≤ hi - lo) = false := by simp; omega
  clear hbb ha s0 s1
  go_enter Tryz.func107, Tryz.ntmps107
  go_wp2_with (first
    | (go_at_call 138; refine (avright_ok _ _ _ _ h0 (by omega) _).mono ?_; rintro e w' ⟨rfl, rfl⟩)
    | (go_at_call 30; refine (slots_k sh hsh _).mono ?_; rintro e w' ⟨rfl, rfl⟩))
  go_loopw [10] (fun i wr => ShowRelN c ka w q l s first sh lo hi i wr) (fun i _ => (hi + 1 - intOf i).toNat)
  case atStart => exact ⟨_, 0, by simp, by omega, (Stp.refl _ c w).alloc _ 2, by simpa [showAll] using Ha.out.stp ((Stp.refl (fun _ => False) c w).alloc (.cells #[.int .i64 sh] 65) 2) id⟩
  case round =>
    obtain ⟨c', j, rfl, hj, st, hat⟩ := hrel
    have St := Lib.hid st
    have Hat := Lib.hid hat
    clear st hat
    by_cases hlt : lo + (j : Int) ≤ hi
    · have hjl : first + slotOf sh (lo + j) < (showAll l first sh lo j).length := by
        rw [showAll_len]
        have := (slotOf_lt sh (lo + j) hsh).1
        have := Hl.out
        omega
      have Hjl := Lib.hid hjl
      clear hjl
      go_wp2_with fail
      refine (avcell_any (Hb.out.stp St.out hne) (lo + j)).mono ?_
      rintro e w2 ⟨rfl, b2⟩
      have st2 := Stp.ofBelow (c := c') b2 2
      have B2 := Lib.hid ((Hb.out.stp St.out hne).stp st2 id)
      have A2 := Lib.hid (Hat.out.stp st2 id)
      have S2 := Lib.hid (St.out.trans (st2.mono (fun _ h => h.elim)))
      clear b2 st2
      go_wp2_with fail
      refine (avround_any B2.out (lo + j)).mono ?_
      rintro e w3 ⟨rfl, b3⟩
      have st3 := Stp.ofBelow (c := paint c' wr.heap.size 2) b3 2
      have A3 := Lib.hid (A2.out.stp st3 id)
      have S3 := Lib.hid (S2.out.trans (st3.mono (fun _ h => h.elim)))
      clear b3 st3 S2 A2 B2
      go_wp2_with fail
      refine (store_ok A3.out _ _ Hjl.out (by have := Hs0.out; omega) (by have := Hs1.out; omega)).mono ?_
      rintro e w4 ⟨rfl, c4, s4, a4⟩
      have A4 := Lib.hid a4
      have S4 := Lib.hid (S3.out.trans s4)
      clear s4 a4 S3 A3
      go_wp2
      go_roundw
      case rel => exact ⟨c4, j + 1, by rw [Int.natCast_add, ← Int.add_assoc]; go_num, by omega, S4.out, by rw [showAll_succ, show (s + ((j + 1 : Nat) : Int)) = s + j + 1 by omega]; exact A4.out⟩
      case measure => simp [intOf]; omega
    · have hjn : j = (hi - lo + 1).toNat := by omega
      have Hj := Lib.hid hjn
      have hjs : hi - lo + 1 = (j : Int) := by omega
      have Hjs := Lib.hid hjs
      clear hjn hjs
      go_wp2
      go_ret
      exact ⟨rfl, c', St.out, by rw [← Hj.out, Hjs.out]; exact Hat.out⟩

theorem ErrAt.iface' {c : Nat → Nat} {w : World} {v : Value} {n : Int} (h : ErrAt c w v n) : ∃ tt vv, v = .iface tt vv := by
  rcases h with rfl | ⟨_, _, _, rfl, _⟩
  · exact ⟨_, _, rfl⟩
  · exact ⟨_, _, rfl⟩

end Go.Proofs.YtiphdedfbafhkaaGreatDoor
