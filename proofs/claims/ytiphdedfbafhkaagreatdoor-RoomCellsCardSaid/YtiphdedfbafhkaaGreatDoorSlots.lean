/- Contracts of the functions of package slots. No condition beyond each contract's own. -/
import Derived.Test.YtiphdedfbafhkaaGreatDoorPow5
import Derived.Test.YtiphdedfbafhkaaGreatDoorMem3
namespace Go.Proofs.YtiphdedfbafhkaaGreatDoor
open Go.RowKit

structure Ev where
  key : Int
  val : Int
def Ev.cells (x : Ev) : List Value := [.int .i64 x.key, .int .i64 x.val]
theorem Ev.len (x : Ev) : x.cells.length = 2 := rfl

/-- A ring of 2^k slots. -/
def RingAt (c : Nat → Nat) (k : Nat) (w : World) (p sh : Nat) (l : List Ev) : Prop :=
  sh < 21 ∧ l.length = 2 ^ sh ∧ ∃ g cap, Blk c k w p [.int .i64 sh, .slice (some ⟨g, 0, none⟩) l.length cap] 140 ∧ Row c k w 80 2 (some ⟨g, 0, none⟩) l.length cap (l.flatMap Ev.cells)

/- of the type 140 -/
theorem RingAt.stp {J : Nat → Prop} {c c' : Nat → Nat} {k : Nat} {w w' : World} {p sh : Nat} {l : List Ev} (h : RingAt c k w p sh l) (st : Stp J c c' w w') (hk : ¬ J k) : RingAt c' k w' p sh l := by
  obtain ⟨h1, h2, g, cap, hb, hr⟩ := h
  exact ⟨h1, h2, g, cap, hb.stp st hk, hr.stp st hk⟩

theorem slat_nil (op : ByteArray) (seq : Int) (w : World) :
    Calls Tryz.prog 87 #[.pointer none, .string op, .int .i64 seq] w fun e w' => e = .returned (.iface 98 (.int .i64 2)) ∧ w = w' := by
  go_enter Tryz.func87, Tryz.ntmps87
  go_wp2
  go_ret
  exact ⟨rfl, rfl⟩

theorem slat_ok (p : Nat) (op : ByteArray) (seq : Int) (h0 : 0 ≤ seq) (h1 : seq ≤ 4611686018427387904) (w : World) :
    Calls Tryz.prog 87 #[.pointer (some ⟨p, 0, none⟩), .string op, .int .i64 seq] w fun e w' => e = .returned .nilIface ∧ w = w' := by
  have t0 : decide (seq < 0) = false := by simp; omega
  have t1 : decide ((4611686018427387904 : Int) < seq) = false := by simp; omega
  go_enter Tryz.func87, Tryz.ntmps87
  go_wp2
  go_ret
  exact ⟨rfl, rfl⟩

theorem slat_bad (c : Nat → Nat) (p : Nat) (op : ByteArray) (seq : Int) (h : seq < 0 ∨ 4611686018427387904 < seq) (w : World) :
    Calls Tryz.prog 87 #[.pointer (some ⟨p, 0, none⟩), .string op, .int .i64 seq] w fun e w' => ∃ t v, e = .returned (.iface t v) ∧ ∃ c', Stp (fun _ => False) c c' w w' ∧ ErrAt c' w' (.iface t v) 5 := by
  by_cases h0 : seq < 0
  · have t0 : decide (seq < 0) = true := by simpa using h0
    clear h h0
    go_enter Tryz.func87, Tryz.ntmps87
    go_wp2_with (go_at_call 50; refine (wrap_some _ _ _ _ _).mono ?_; rintro e w' ⟨rfl, rfl⟩)
    go_ret
    exact ⟨_, _, rfl, _, (Stp.refl _ c w).alloc _ 1, ErrAt.new _ _ _ _ _⟩
  · have t0 : decide (seq < 0) = false := by simpa using h0
    have t1 : decide ((4611686018427387904 : Int) < seq) = true := by simp; omega
    clear h h0
    go_enter Tryz.func87, Tryz.ntmps87
    go_wp2_with (go_at_call 50; refine (wrap_some _ _ _ _ _).mono ?_; rintro e w' ⟨rfl, rfl⟩)
    go_ret
    exact ⟨_, _, rfl, _, (Stp.refl _ c w).alloc _ 1, ErrAt.new _ _ _ _ _⟩

theorem slput_nil (seq a b : Int) (w : World) :
    Calls Tryz.prog 42 #[.pointer none, .int .i64 seq, .agg #[.int .i64 a, .int .i64 b]] w fun e w' => e = .returned (.iface 98 (.int .i64 2)) ∧ w.alloc (.cells #[.int .i64 a, .int .i64 b] 80) = w' := by
  go_enter Tryz.func42, Tryz.ntmps42
  go_wp2_with (go_at_call 87; refine (slat_nil _ _ _).mono ?_; rintro e w' ⟨rfl, rfl⟩)
  go_ret
  exact ⟨rfl, rfl⟩

theorem slget_nil (seq : Int) (w : World) :
    Calls Tryz.prog 43 #[.pointer none, .int .i64 seq] w fun e w' => e = .returned (.tuple #[.agg #[.int .i64 0, .int .i64 0], .iface 98 (.int .i64 2)]) ∧ w.alloc (.cells #[.int .i64 0, .int .i64 0] 80) = w' := by
  go_enter Tryz.func43, Tryz.ntmps43
  go_wp2_with (go_at_call 87; refine (slat_nil _ _ _).mono ?_; rintro e w' ⟨rfl, rfl⟩)
  exact bodyPost_ret (v := .tuple #[.agg #[.int .i64 0, .int .i64 0], .iface 98 (.int .i64 2)]) (by simp [results, Tryz.results43, go_sem]) rfl ⟨rfl, rfl⟩

theorem slsize_nil (w : World) :
    Calls Tryz.prog 29 #[.pointer none] w fun e w' => e = .returned (.agg #[.int .i64 0]) ∧ w.alloc (.cells #[.int .i64 0] 65) = w' := by
  go_enter Tryz.func29, Tryz.ntmps29
  go_wp2
  exact bodyPost_ret (v := .agg #[.int .i64 0]) (by simp [results, Tryz.results29, go_sem]) rfl ⟨rfl, rfl⟩

theorem slnew_bad (c : Nat → Nat) (n : Int) (h : NoPow n) (w : World) :
    Calls Tryz.prog 54 #[.int .i64 n] w fun e w' => ∃ ev, e = .returned (.tuple #[.pointer none, ev]) ∧ ∃ c', Stp (fun _ => False) c c' w w' ∧ ErrAt c' w' ev 7 := by
  have H := Lib.hid h
  clear h
  go_enter Tryz.func54, Tryz.ntmps54
  go_wp2_with fail
  refine (of_bad c n H.out _).mono ?_
  rintro e w1 ⟨ev, rfl, c1, s1, e1⟩
  obtain ⟨t, v, rfl⟩ : ∃ t v, ev = .iface t v := by
    rcases e1 with h | ⟨_, _, _, h, _⟩ <;> exact ⟨_, _, h⟩
  have S1 := Lib.hid s1
  have E1 := Lib.hid e1
  clear s1 e1
  go_wp2
  go_ret2
  exact ⟨_, rfl, _, S1.out.alloc _ 2, E1.out.stp ((Stp.refl (fun _ => False) c1 w1).alloc _ 2) id⟩

theorem Tryz.infoEv : (Tryz.prog.info? 80).map (fun i => (i.zero, i.size, i.bytes)) = some (some (.agg #[.int .i64 0, .int .i64 0]), 2, 16) := by kernel_rfl

theorem made_flat (n : Nat) : madeCells #[.int .i64 0, .int .i64 0] (n * 2) = ((List.replicate n (⟨0, 0⟩ : Ev)).flatMap Ev.cells).toArray := by
  have h1 : madeCells #[.int .i64 0, .int .i64 0] (n * 2) = (List.replicate (n * 2) (Value.int .i64 0)).toArray := by
    apply Array.ext
    · simp [size_madeCells]
    · intro i h1 h2
      have : i % 2 = 0 ∨ i % 2 = 1 := by omega
      rcases this with h | h <;> simp [madeCells, h]
  rw [h1]
  congr 1
  induction n with
  | zero => rfl
  | succ n ih =>
    rw [show (n + 1) * 2 = n * 2 + 1 + 1 by omega, List.replicate_succ, List.replicate_succ, List.replicate_succ, List.flatMap_cons, ih (by
      apply Array.ext
      · simp [size_madeCells]
      · intro i h1 h2
        have : i % 2 = 0 ∨ i % 2 = 1 := by omega
        rcases this with h | h <;> simp [madeCells, h])]
    rfl

/-- New of a size: a ring of empty slots, of colour k2. -/
theorem slnew_n (c : Nat → Nat) (k2 k n : Nat) (hk : k < 21) (hn : n = 2 ^ k) (w : World) (ht : Tab w) :
    Calls Tryz.prog 54 #[.int .i64 (n : Int)] w fun e w' => ∃ p, e = .returned (.tuple #[.pointer (some ⟨p, 0, none⟩), .nilIface]) ∧ ∃ c', Stp (fun _ => False) c c' w w' ∧ RingAt c' k2 w' p k (List.replicate n ⟨0, 0⟩) := by
  have hb := pow_le20 k hk
  rw [← hn] at hb
  have b1 := hb.1
  have b2 := hb.2
  have Ht := Lib.hid ht
  have Hn := Lib.hid hn
  obtain ⟨i0, hi, hz0, hz1, hz2⟩ := info_parts Tryz.infoEv
  have hmk : ∀ wx : World, (Instr.makeSlice 138 (.int .i64 (n : Int)) (.int .i64 (n : Int))).run Tryz.prog wx = .ok (.slice (some ⟨wx.heap.size, 0, none⟩) n n) (wx.alloc (.cells (madeCells #[.int .i64 0, .int .i64 0] (n * 2)) 80)) := fun wx => by
    have := run_make (P := Tryz.prog) wx 138 80 i0 (.agg #[.int .i64 0, .int .i64 0]) Tryz.underlying138 hi hz0 .i64 .i64 n n (by omega) (Int.le_refl _) (by rw [hz2]; omega) (by omega)
    rw [hz1, show (Value.agg #[.int .i64 0, .int .i64 0]).cells = #[.int .i64 0, .int .i64 0] from rfl] at this
    simpa using this
  clear hb ht hn hi hz0 hz1 hz2
  go_enter Tryz.func54, Tryz.ntmps54
  go_wp2_with fail
  have hof := of_pow c k hk w Ht.out
  rw [← Hn.out] at hof
  refine hof.mono ?_
  rintro e w1 ⟨rfl, c1, s1⟩
  clear hof
  have S1 := Lib.hid s1
  clear s1
  go_wp2
  go_region
  go_wp2
  go_ret2
  have S2 := (((S1.out.alloc (.cells #[.int .i64 k] 65) k2).alloc (.cells (madeCells #[.int .i64 0, .int .i64 0] (n * 2)) 80) k2).alloc (.cells #[.int .i64 k, .slice (some ⟨w1.heap.size + 1, 0, none⟩) n n] 140) k2).drew
  refine ⟨_, rfl, _, S2, hk, by simpa using Hn.out, w1.heap.size + 1, n, ?_, ?_⟩
  · simpa using Blk.drew (Blk.new _ k2 ((w1.alloc (.cells #[.int .i64 k] 65)).alloc (.cells (madeCells #[.int .i64 0, .int .i64 0] (n * 2)) 80)) [.int .i64 k, .slice (some ⟨w1.heap.size + 1, 0, none⟩) n n] 140)
  · rw [made_flat]
    have R := (Row.new (paint c1 w1.heap.size k2) k2 (w1.alloc (.cells #[.int .i64 k] 65)) 80 2 n n ((List.replicate n (⟨0, 0⟩ : Ev)).flatMap Ev.cells) (by rw [flat_len Ev.cells 2 Ev.len]; simp) (Nat.le_refl _) (by unfold maxLen; omega)).alloc (.cells #[.int .i64 k, .slice (some ⟨w1.heap.size + 1, 0, none⟩) n n] 140) k2
    rw [List.take_of_length_le (by rw [flat_len Ev.cells 2 Ev.len]; simp)] at R
    simpa using R.drew
end Go.Proofs.YtiphdedfbafhkaaGreatDoor
