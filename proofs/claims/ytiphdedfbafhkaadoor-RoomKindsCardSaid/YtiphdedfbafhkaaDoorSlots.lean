/- Contracts of the functions of package slots. No condition beyond each contract's own. -/
import Derived.Test.YtiphdedfbafhkaaDoorPow5
import Derived.Test.YtiphdedfbafhkaaDoorMem3
namespace Go.Proofs.YtiphdedfbafhkaaDoor
open Go.RowKit

structure Ev where
  key : Int
  val : Int
def Ev.cells (x : Ev) : List Value := [.int .i64 x.key, .int .i64 x.val]
theorem Ev.len (x : Ev) : x.cells.length = 2 := rfl

/-- A ring of 2^k slots. -/
def RingAt (c : Nat → Nat) (k : Nat) (w : World) (p sh : Nat) (l : List Ev) : Prop :=
  sh < 21 ∧ l.length = 2 ^ sh ∧ ∃ g cap, Blk c k w p [.int .i64 sh, .slice (some ⟨g, 0, none⟩) l.length cap] 151 ∧ Row c k w 212 2 (some ⟨g, 0, none⟩) l.length cap (l.flatMap Ev.cells)

/- of the type 151 -/
theorem RingAt.stp {J : Nat → Prop} {c c' : Nat → Nat} {k : Nat} {w w' : World} {p sh : Nat} {l : List Ev} (h : RingAt c k w p sh l) (st : Stp J c c' w w') (hk : ¬ J k) : RingAt c' k w' p sh l := by
  obtain ⟨h1, h2, g, cap, hb, hr⟩ := h
  exact ⟨h1, h2, g, cap, hb.stp st hk, hr.stp st hk⟩

theorem slnew_bad (c : Nat → Nat) (n : Int) (h : NoPow n) (w : World) :
    Calls Tryd.prog 49 #[.int .i64 n] w fun e w' => ∃ ev, e = .returned (.tuple #[.pointer none, ev]) ∧ ∃ c', Stp (fun _ => False) c c' w w' ∧ ErrAt c' w' ev 7 := by
  have H := Lib.hid h
  clear h
  go_enter Tryd.func49, Tryd.ntmps49
  go_wp2_with fail
  refine (of_bad c n H.out _).mono ?_
  rintro e w1 ⟨ev, rfl, c1, s1, e1⟩
  obtain ⟨t, v, rfl⟩ : ∃ t v, ev = .iface t v := by
    rcases e1 with h | ⟨_, _, _, h, _⟩ <;> exact ⟨_, _, h⟩
  have S1 := Lib.hid s1
  have E1 := Lib.hid e1
  clear s1 e1
  go_wp2
  go_ret2
  exact ⟨_, rfl, _, S1.out.alloc _ 2, E1.out.stp ((Stp.refl (fun _ => False) c1 w1).alloc _ 2) id⟩

theorem Tryd.infoEv : (Tryd.prog.info? 212).map (fun i => (i.zero, i.size, i.bytes)) = some (some (.agg #[.int .i64 0, .int .i64 0]), 2, 16) := by kernel_rfl

theorem made_flat (n : Nat) : madeCells #[.int .i64 0, .int .i64 0] (n * 2) = ((List.replicate n (⟨0, 0⟩ : Ev)).flatMap Ev.cells).toArray := by
  have h1 : madeCells #[.int .i64 0, .int .i64 0] (n * 2) = (List.replicate (n * 2) (Value.int .i64 0)).toArray := by
    apply Array.ext
    · simp [size_madeCells]
    · intro i h1 h2
      have : i % 2 = 0 ∨ i % 2 = 1 := by omega
      rcases this with h | h <;> simp [madeCells, h]
  rw [h1]
  congr 1
  induction n with
  | zero => rfl
  | succ n ih =>
    rw [show (n + 1) * 2 = n * 2 + 1 + 1 by omega, List.replicate_succ, List.replicate_succ, List.replicate_succ, List.flatMap_cons, ih (by
      apply Array.ext
      · simp [size_madeCells]
      · intro i h1 h2
        have : i % 2 = 0 ∨ i % 2 = 1 := by omega
        rcases this with h | h <;> simp [madeCells, h])]
    rfl

/-- New of a size: a ring of empty slots, of colour k2. -/
theorem slnew_n (c : Nat → Nat) (k2 k n : Nat) (hk : k < 21) (hn : n = 2 ^ k) (w : World) (ht : Tab w) :
    Calls Tryd.prog 49 #[.int .i64 (n : Int)] w fun e w' => ∃ p, e = .returned (.tuple #[.pointer (some ⟨p, 0, none⟩), .nilIface]) ∧ ∃ c', Stp (fun _ => False) c c' w w' ∧ RingAt c' k2 w' p k (List.replicate n ⟨0, 0⟩) := by
  have hb := pow_le20 k hk
  rw [← hn] at hb
  have b1 := hb.1
  have b2 := hb.2
  have Ht := Lib.hid ht
  have Hn := Lib.hid hn
  obtain ⟨i0, hi, hz0, hz1, hz2⟩ := info_parts Tryd.infoEv
  have hmk : ∀ wx : World, (Instr.makeSlice 149 (.int .i64 (n : Int)) (.int .i64 (n : Int))).run Tryd.prog wx = .ok (.slice (some ⟨wx.heap.size, 0, none⟩) n n) (wx.alloc (.cells (madeCells #[.int .i64 0, .int .i64 0] (n * 2)) 212)) := fun wx => by
    have := run_make (P := Tryd.prog) wx 149 212 i0 (.agg #[.int .i64 0, .int .i64 0]) Tryd.underlying149 hi hz0 .i64 .i64 n n (by omega) (Int.le_refl _) (by rw [hz2]; omega) (by omega)
    rw [hz1, show (Value.agg #[.int .i64 0, .int .i64 0]).cells = #[.int .i64 0, .int .i64 0] from rfl] at this
    simpa using this
  clear hb ht hn hi hz0 hz1 hz2
  go_enter Tryd.func49, Tryd.ntmps49
  go_wp2_with fail
  have hof := of_pow c k hk w Ht.out
  rw [← Hn.out] at hof
  refine hof.mono ?_
  rintro e w1 ⟨rfl, c1, s1⟩
  clear hof
  have S1 := Lib.hid s1
  clear s1
  go_wp2
  go_region
  go_wp2
  go_ret2
  have S2 := (((S1.out.alloc (.cells #[.int .i64 k] 98) k2).alloc (.cells (madeCells #[.int .i64 0, .int .i64 0] (n * 2)) 212) k2).alloc (.cells #[.int .i64 k, .slice (some ⟨w1.heap.size + 1, 0, none⟩) n n] 151) k2).drew
  refine ⟨_, rfl, _, S2, hk, by simpa using Hn.out, w1.heap.size + 1, n, ?_, ?_⟩
  · simpa using Blk.drew (Blk.new _ k2 ((w1.alloc (.cells #[.int .i64 k] 98)).alloc (.cells (madeCells #[.int .i64 0, .int .i64 0] (n * 2)) 212)) [.int .i64 k, .slice (some ⟨w1.heap.size + 1, 0, none⟩) n n] 151)
  · rw [made_flat]
    have R := (Row.new (paint c1 w1.heap.size k2) k2 (w1.alloc (.cells #[.int .i64 k] 98)) 212 2 n n ((List.replicate n (⟨0, 0⟩ : Ev)).flatMap Ev.cells) (by rw [flat_len Ev.cells 2 Ev.len]; simp) (Nat.le_refl _) (by unfold maxLen; omega)).alloc (.cells #[.int .i64 k, .slice (some ⟨w1.heap.size + 1, 0, none⟩) n n] 151) k2
    rw [List.take_of_length_le (by rw [flat_len Ev.cells 2 Ev.len]; simp)] at R
    simpa using R.drew
end Go.Proofs.YtiphdedfbafhkaaDoor
