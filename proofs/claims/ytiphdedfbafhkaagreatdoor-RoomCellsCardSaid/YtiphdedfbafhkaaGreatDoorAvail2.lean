/- Contracts of Highest and New of package avail, and of Show where it is refused. No condition beyond each contract's own. -/
import Derived.Test.YtiphdedfbafhkaaGreatDoorAvail
namespace Go.Proofs.YtiphdedfbafhkaaGreatDoor
open Go.RowKit

theorem avshow_bad {c : Nat → Nat} {kb : Nat} {w : World} {p q sh first : Nat} (hb : BufAt c kb w p sh first) (lo hi : Int) (h0 : -9223372036854775808 ≤ lo ∧ lo ≤ 9223372036854775807) (h1 : -9223372036854775808 ≤ hi ∧ hi ≤ 9223372036854775807)
    (n : Int) (hn : n = if lo < 0 ∨ 4611686018427387904 < lo then 5 else 1) (hbad : lo < 0 ∨ 4611686018427387904 < lo ∨ hi < lo ∨ 4611686018427387904 < hi ∨ 2 ^ sh ≤ hi - lo) :
    Calls Tryz.prog 107 #[.pointer (some ⟨p, 0, none⟩), .pointer (some ⟨q, 0, none⟩), .int .i64 lo, .int .i64 hi] w fun e w' => ∃ ev, e = .returned ev ∧ ∃ c', Stp (fun _ => False) c c' w w' ∧ ErrAt c' w' ev n := by
  obtain ⟨h0a, h0b⟩ := h0
  obtain ⟨h1a, h1b⟩ := h1
  by_cases hr : lo < 0 ∨ 4611686018427387904 < lo
  · obtain rfl : n = 5 := by rw [hn, if_pos hr]
    have Hr := Lib.hid hr
    clear hr hbad hn hb
    go_enter Tryz.func107, Tryz.ntmps107
    go_wp2_with (go_at_call 138; refine (avright_bad c _ _ _ _ Hr.out _).mono ?_; rintro e w' ⟨t, v, rfl, c1, s1, e1⟩)
    go_ret
    exact ⟨_, rfl, c1, s1, e1⟩
  · obtain rfl : n = 1 := by rw [hn, if_neg hr]
    have l0 : 0 ≤ lo := by omega
    have l1 : lo ≤ 4611686018427387904 := by omega
    obtain ⟨hsh, _, hbb⟩ := hb
    have c0 := hbb.cell 0
    simp at c0
    have hbd := two_pow_bd sh hsh
    by_cases g1 : hi < lo
    · have t0 : decide (hi < lo) = true := by simpa using g1
      clear hr hbad hn hbb hbd g1
      go_enter Tryz.func107, Tryz.ntmps107
      go_wp2_with (first
        | (go_at_call 138; refine (avright_ok _ _ _ _ l0 l1 _).mono ?_; rintro e w' ⟨rfl, rfl⟩)
        | (go_at_call 30; refine (slots_k sh hsh _).mono ?_; rintro e w' ⟨rfl, rfl⟩)
        | (go_at_call 50; refine (wrap_some _ _ _ _ _).mono ?_; rintro e w' ⟨rfl, rfl⟩))
      go_ret
      exact ⟨_, rfl, _, (Stp.refl _ c w).alloc _ 1, ErrAt.new _ _ _ _ _⟩
    · have t0 : decide (hi < lo) = false := by simpa using g1
      have g3 : lo ≤ hi := by omega
      by_cases g2 : 2 ^ sh ≤ hi - lo
      · have t1 : decide ((2 : Int) ^ sh ≤ hi - lo) = true := by simpa using g2
        clear hr hbad hn hbb hbd g1 g2
        go_enter Tryz.func107, Tryz.ntmps107
        go_wp2_with (first
          | (go_at_call 138; refine (avright_ok _ _ _ _ l0 l1 _).mono ?_; rintro e w' ⟨rfl, rfl⟩)
          | (go_at_call 30; refine (slots_k sh hsh _).mono ?_; rintro e w' ⟨rfl, rfl⟩)
          | (go_at_call 50; refine (wrap_some _ _ _ _ _).mono ?_; rintro e w' ⟨rfl, rfl⟩))
        go_ret
        exact ⟨_, rfl, _, Stp.allocG (j := 1) ((Stp.refl _ c w).alloc _ 2) rfl, ErrAt.newAt (by simp) (by simp)⟩
      · have t1 : decide ((2 : Int) ^ sh ≤ hi - lo) = false := by simpa using g2
        have t2 : decide ((4611686018427387904 : Int) < hi) = true := by simp; omega
        clear hr hbad hn hbb hbd g1 g2
        go_enter Tryz.func107, Tryz.ntmps107
        go_wp2_with (first
          | (go_at_call 138; refine (avright_ok _ _ _ _ l0 l1 _).mono ?_; rintro e w' ⟨rfl, rfl⟩)
          | (go_at_call 30; refine (slots_k sh hsh _).mono ?_; rintro e w' ⟨rfl, rfl⟩)
          | (go_at_call 50; refine (wrap_some _ _ _ _ _).mono ?_; rintro e w' ⟨rfl, rfl⟩))
        go_ret
        exact ⟨_, rfl, _, Stp.allocG (j := 1) ((Stp.refl _ c w).alloc _ 2) rfl, ErrAt.newAt (by simp) (by simp)⟩

/-- New of a buffer: its cells are laid behind the arena's. -/
def NewRel (c : Nat → Nat) (ka kb : Nat) (w : World) (q p k : Nat) (l : List Int) (s : Int) (i : Value) (wr : World) : Prop :=
  ∃ (c' : Nat → Nat) (j : Nat), i = .int .i64 j ∧ (j : Int) ≤ 2 ^ k ∧ Stp (· = ka) c c' w wr ∧ ArenaAt c' ka wr q (l ++ List.replicate j (-1)) s ∧ BufAt c' kb wr p k l.length

set_option maxHeartbeats 1000000 in
theorem avnew_ok {c : Nat → Nat} {ka : Nat} {w : World} {q : Nat} {l : List Int} {s : Int} (ha : ArenaAt c ka w q l s) (kb k : Nat) (hne : kb ≠ ka) (hk : k < 21) (hl : (l.length : Int) + 2 ^ k ≤ 2097152) :
    Calls Tryz.prog 104 #[.pointer (some ⟨q, 0, none⟩), .agg #[.int .i64 k]] w fun e w' => ∃ p, e = .returned (.tuple #[.pointer (some ⟨p, 0, none⟩), .nilIface]) ∧ ∃ c', Stp (· = ka) c c' w w' ∧ ArenaAt c' ka w' q (l ++ List.replicate (2 ^ k) (-1)) s ∧ BufAt c' kb w' p k l.length := by
  have Ha := Lib.hid ha
  have hbd := two_pow_bd k hk
  have b1 := hbd.1
  have b2 := hbd.2
  have hwp := wrap_two_pow k hk
  have hlen : (l.length : Int) ≤ 2097152 := by omega
  have t0 : decide (2097152 - (l.length : Int) < 2 ^ k) = false := by simp; omega
  clear ha hbd
  go_enter Tryz.func104, Tryz.ntmps104
  go_wp2_with fail
  refine (slots_k k hk _).mono ?_
  rintro e w' ⟨rfl, rfl⟩
  obtain ⟨c1, -, S1⟩ := (((Stp.refl (fun _ => False) c w).alloc (.cells #[.int .i64 k] 65) 2).alloc (.cells #[.int .i64 k] 65) 2).name
  have A1 := Lib.hid (Ha.out.stp S1.out id)
  go_wp2_with (go_at_call 18; refine (len_any A1.out).mono ?_; rintro e w' ⟨rfl, rfl⟩)
  obtain ⟨wb, hwb⟩ : ∃ wb : World, wb = (w.alloc (.cells #[.int .i64 k] 65)).alloc (.cells #[.int .i64 k] 65) := ⟨_, rfl⟩
  have x0 : wb.cell? ⟨w.heap.size, 0, none⟩ = some (.int .i64 k) := by subst hwb; simp
  have hws : wb.heap.size = w.heap.size + 1 + 1 := by subst hwb; simp
  rw [← hwb] at A1 S1 ⊢
  clear hwb
  have hlt : w.heap.size < wb.heap.size := World.block_lt_of_cell? _ _ x0
  have Hws := Lib.hid hws
  clear hws
  go_region_with ((go_at_call 18; refine (len_any (A1.out.stp (Stp.refl (fun _ => False) c1 wb).drew id)).mono ?_; rintro e w' ⟨rfl, rfl⟩))
  all_goals
    have S2 := Lib.hid ((S1.out.alloc (.cells #[.int .i64 k, .int .i64 l.length] 229) kb).drew)
    have A2 := Lib.hid (A1.out.stp ((Stp.refl (fun _ => False) c1 wb).alloc (.cells #[.int .i64 k, .int .i64 l.length] 229) kb).drew id)
    have B2 := Lib.hid (Blk.new c1 kb wb [.int .i64 k, .int .i64 l.length] 229).drew
    have S3 := Lib.hid (S2.out.alloc (.cells #[.int .i64 k] 65) 2)
    have A3 := Lib.hid (A2.out.stp ((Stp.refl (fun _ => False) _ _).alloc (.cells #[.int .i64 k] 65) 2) id)
    have B3 := Lib.hid (B2.out.stp ((Stp.refl (fun _ => False) _ _).alloc (.cells #[.int .i64 k] 65) 2) id)
    clear S2 A2 B2
    go_wp2_with (go_at_call 30; refine (slots_k k hk _).mono ?_; rintro e w' ⟨rfl, rfl⟩)
    go_loopw [29] (fun i wr => NewRel c ka kb w q wb.heap.size k l s i wr) (fun i _ => (2 ^ k - intOf i).toNat)
    case atStart => exact ⟨_, 0, rfl, by omega, S3.out.mono (fun _ h => h.elim), by rw [List.replicate_zero, List.append_nil]; exact A3.out, hk, hlen, B3.out⟩
    case round =>
      obtain ⟨c', j, rfl, hj, st, hat, hbf⟩ := hrel
      have St := Lib.hid st
      have Hat := Lib.hid hat
      have Hbf := Lib.hid hbf
      clear st hat hbf S3 A3 B3
      by_cases hlt2 : (j : Int) < 2 ^ k
      · go_wp2_with fail
        refine (alloc_ok Hat.out (-1) (by simp; omega)).mono ?_
        rintro e w2 ⟨rfl, c2, s2, a2⟩
        have S2 := Lib.hid (St.out.trans s2)
        have B2 := Lib.hid (Hbf.out.stp s2 hne)
        have A2 := Lib.hid a2
        clear s2 a2
        go_wp2
        go_roundw
        case rel => exact ⟨c2, j + 1, by go_num, by omega, S2.out, by rw [List.replicate_succ', ← List.append_assoc]; exact A2.out, B2.out⟩
        case measure => simp [intOf]; omega
      · have hjn : j = 2 ^ k := by have := two_pow_cast k; omega
        have Hj := Lib.hid hjn
        clear hjn
        go_wp2
        go_ret2
        exact ⟨_, rfl, c', St.out, by rw [← Hj.out]; exact Hat.out, Hbf.out⟩

/-- The last index, from lo on, up to hi, up to which all are shown. -/
def HiAt (l : List Int) (first sh : Nat) (lo hi x : Int) : Prop :=
  lo - 1 ≤ x ∧ (x ≤ hi ∨ x = lo - 1) ∧ (∀ s : Int, lo ≤ s → s ≤ x → shownAt l first sh s = true) ∧ (x < hi → shownAt l first sh (x + 1) = false)

theorem HiAt.uniq {l : List Int} {first sh : Nat} {lo hi x y : Int} (h : HiAt l first sh lo hi x) (k : HiAt l first sh lo hi y) : x = y := by
  rcases Int.lt_trichotomy x y with h1 | h1 | h1
  · have a := h.2.2.2 (by have := k.2.1; have := h.1; omega)
    rw [k.2.2.1 (x + 1) (by have := h.1; omega) (by omega)] at a
    cases a
  · exact h1
  · have a := k.2.2.2 (by have := h.2.1; have := k.1; omega)
    rw [h.2.2.1 (y + 1) (by have := k.1; omega) (by omega)] at a
    cases a

def HighRel (c : Nat → Nat) (ka : Nat) (w : World) (q : Nat) (l : List Int) (first sh : Nat) (lo hi : Int) (i : Value) (wr : World) : Prop :=
  ∃ (c' : Nat → Nat) (j : Nat), i = .int .i64 (lo + j) ∧ (lo + j ≤ hi + 1 ∨ j = 0) ∧ (∀ t : Nat, t < j → shownAt l first sh (lo + t) = true) ∧ Stp (· = ka) c c' w wr ∧ ArenaS c' ka wr q l

set_option maxHeartbeats 1000000 in
theorem avhigh_ok {c : Nat → Nat} {kb ka : Nat} {w : World} {p q sh first : Nat} {l : List Int} (hb : BufAt c kb w p sh first) (ha : ArenaS c ka w q l) (hne : kb ≠ ka) (hl : first + 2 ^ sh ≤ l.length) (lo hi : Int) (h0 : 0 ≤ lo) (h1 : lo ≤ 4611686018427387904) (h2 : hi ≤ 4611686018427387904) (h3 : -9223372036854775808 ≤ hi) :
    Calls Tryz.prog 117 #[.pointer (some ⟨p, 0, none⟩), .pointer (some ⟨q, 0, none⟩), .int .i64 lo, .int .i64 hi] w fun e w' => ∃ x, e = .returned (.tuple #[.int .i64 x, .nilIface]) ∧ HiAt l first sh lo hi x ∧ ∃ c', Stp (· = ka) c c' w w' ∧ ArenaS c' ka w' q l := by
  have Hb := Lib.hid hb
  have Ha := Lib.hid ha
  have Hl := Lib.hid hl
  have t1 : decide ((4611686018427387904 : Int) < hi) = false := by simp; omega
  clear ha hb hl
  go_enter Tryz.func117, Tryz.ntmps117
  go_wp2_with (go_at_call 138; refine (avright_ok _ _ _ _ h0 h1 _).mono ?_; rintro e w' ⟨rfl, rfl⟩)
  go_loopw [11] (fun i wr => HighRel c ka w q l first sh lo hi i wr) (fun i _ => (hi + 1 - intOf i).toNat)
  case atStart => exact ⟨c, 0, by simp, .inr rfl, fun t ht => absurd ht (by omega), Stp.refl _ _ _, Ha.out⟩
  case round =>
    obtain ⟨c', j, rfl, hj, hsh, st, hat⟩ := hrel
    have St := Lib.hid st
    have Hat := Lib.hid hat
    have Hsh := Lib.hid hsh
    clear st hat hsh
    by_cases hlt : lo + (j : Int) ≤ hi
    · have t2 : decide (lo + (j : Int) ≤ hi) = true := by simpa using hlt
      have hj0 : 0 ≤ lo + (j : Int) := by omega
      clear hj
      go_wp2_with fail
      refine (avis_ok (Hb.out.stp St.out hne) Hat.out hne Hl.out (lo + j) hj0 (by omega)).mono ?_
      rintro e w2 ⟨rfl, c2, s2, a2⟩
      have S2 := Lib.hid (St.out.trans s2)
      have A2 := Lib.hid a2
      clear s2 a2
      by_cases hs : shownAt l first sh (lo + j) = true
      · have Hs := Lib.hid hs
        rw [hs]
        clear hs
        go_wp2
        go_roundw
        case rel => exact ⟨c2, j + 1, by rw [Int.natCast_add, ← Int.add_assoc]; go_num, .inl (by omega), fun t ht => (by
          rcases Nat.lt_or_ge t j with h | h
          · exact Hsh.out t h
          · rw [show t = j by omega]; exact Hs.out), S2.out, A2.out⟩
        case measure => simp [intOf]; omega
      · have hs' : shownAt l first sh (lo + j) = false := by simpa using hs
        have Hs := Lib.hid hs'
        rw [hs']
        clear hs hs'
        go_wp2
        go_ret2
        refine ⟨lo + j - 1, rfl, ⟨by omega, by omega, fun s hs1 hs2 => ?_, fun _ => ?_⟩, c2, S2.out, A2.out⟩
        · have := Hsh.out (s - lo).toNat (by omega)
          rw [show lo + ((s - lo).toNat : Int) = s by omega] at this
          exact this
        · rw [show lo + (j : Int) - 1 + 1 = lo + j by omega]; exact Hs.out
    · have t2 : decide (lo + (j : Int) ≤ hi) = false := by simpa using hlt
      have Hj := Lib.hid hj
      clear hj
      go_wp2
      all_goals
        go_ret2
        refine ⟨_, rfl, ⟨?_, ?_, fun s hs1 hs2 => ?_, fun hh => ?_⟩, c', St.out, Hat.out⟩
        · have := Hj.out; omega
        · have := Hj.out; omega
        · have := Hsh.out (s - lo).toNat (by have := Hj.out; omega)
          rw [show lo + ((s - lo).toNat : Int) = s by omega] at this
          exact this
        · exfalso; have := Hj.out; omega

theorem avhigh_bad {c : Nat → Nat} {w : World} {p q : Nat} (lo hi : Int) (n : Int) (hn : n = if lo < 0 ∨ 4611686018427387904 < lo then 5 else 1) (hbad : lo < 0 ∨ 4611686018427387904 < lo ∨ 4611686018427387904 < hi) :
    Calls Tryz.prog 117 #[.pointer (some ⟨p, 0, none⟩), .pointer (some ⟨q, 0, none⟩), .int .i64 lo, .int .i64 hi] w fun e w' => ∃ ev, e = .returned (.tuple #[.int .i64 0, ev]) ∧ ∃ c', Stp (fun _ => False) c c' w w' ∧ ErrAt c' w' ev n := by
  by_cases hr : lo < 0 ∨ 4611686018427387904 < lo
  · obtain rfl : n = 5 := by rw [hn, if_pos hr]
    have Hr := Lib.hid hr
    clear hr hbad hn
    go_enter Tryz.func117, Tryz.ntmps117
    go_wp2_with (go_at_call 138; refine (avright_bad c _ _ _ _ Hr.out _).mono ?_; rintro e w' ⟨t, v, rfl, c1, s1, e1⟩)
    go_ret2
    exact ⟨_, rfl, c1, s1, e1⟩
  · obtain rfl : n = 1 := by rw [hn, if_neg hr]
    have l0 : 0 ≤ lo := by omega
    have l1 : lo ≤ 4611686018427387904 := by omega
    have t2 : decide ((4611686018427387904 : Int) < hi) = true := by simp; omega
    clear hr hbad hn
    go_enter Tryz.func117, Tryz.ntmps117
    go_wp2_with (first
      | (go_at_call 138; refine (avright_ok _ _ _ _ l0 l1 _).mono ?_; rintro e w' ⟨rfl, rfl⟩)
      | (go_at_call 50; refine (wrap_some _ _ _ _ _).mono ?_; rintro e w' ⟨rfl, rfl⟩))
    go_ret2
    exact ⟨_, rfl, _, (Stp.refl _ c w).alloc _ 1, ErrAt.new _ _ _ _ _⟩
end Go.Proofs.YtiphdedfbafhkaaGreatDoor
