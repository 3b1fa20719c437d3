/- Contracts that the closing theorem wants (BB). No condition beyond each law's own. -/
import Derived.Test.YtiphdedfbafhkaaGreatDoorZBA
import Derived.Deep.RegionHeld3
import Derived.Test.YtiphdedfbafhkaaGreatDoorRows
import Derived.Deep.QuietTactic
import Derived.BigQuiet
import Derived.Lib.SliceRun
import Derived.Lib.SmallJoins
import Derived.Deep.RegionLaw
namespace Go.Proofs.YtiphdedfbafhkaaGreatDoor
open Go.RowKit

structure Ev where
  key : Int
  val : Int
def Ev.cells (x : Ev) : List Value := [.int .i64 x.key, .int .i64 x.val]
theorem Ev.len (x : Ev) : x.cells.length = 2 := rfl

/-- A ring of 2^k slots. -/
def RingAt (c : Nat → Nat) (k : Nat) (w : World) (p sh : Nat) (l : List Ev) : Prop :=
  sh < 21 ∧ l.length = 2 ^ sh ∧ ∃ g cap, Blk c k w p [.int .i64 sh, .slice (some ⟨g, 0, none⟩) l.length cap] 140 ∧ Row c k w 80 2 (some ⟨g, 0, none⟩) l.length cap (l.flatMap Ev.cells)

theorem RingAt.stp {J : Nat → Prop} {c c' : Nat → Nat} {k : Nat} {w w' : World} {p sh : Nat} {l : List Ev} (h : RingAt c k w p sh l) (st : Stp J c c' w w') (hk : ¬ J k) : RingAt c' k w' p sh l := by
  obtain ⟨h1, h2, g, cap, hb, hr⟩ := h
  exact ⟨h1, h2, g, cap, hb.stp st hk, hr.stp st hk⟩

theorem Tryz.infoEv : (Tryz.prog.info? 80).map (fun i => (i.zero, i.size, i.bytes)) = some (some (.agg #[.int .i64 0, .int .i64 0]), 2, 16) := by kernel_rfl

theorem made_flat (n : Nat) : madeCells #[.int .i64 0, .int .i64 0] (n * 2) = ((List.replicate n (⟨0, 0⟩ : Ev)).flatMap Ev.cells).toArray := by
  have h1 : madeCells #[.int .i64 0, .int .i64 0] (n * 2) = (List.replicate (n * 2) (Value.int .i64 0)).toArray := by
    apply Array.ext
    · simp [size_madeCells]
    · intro i h1 h2
      have : i % 2 = 0 ∨ i % 2 = 1 := by omega
      rcases this with h | h <;> simp [madeCells, h]
  rw [h1]
  congr 1
  induction n with
  | zero => rfl
  | succ n ih =>
    rw [show (n + 1) * 2 = n * 2 + 1 + 1 by omega, List.replicate_succ, List.replicate_succ, List.replicate_succ, List.flatMap_cons, ih (by
      apply Array.ext
      · simp [size_madeCells]
      · intro i h1 h2
        have : i % 2 = 0 ∨ i % 2 = 1 := by omega
        rcases this with h | h <;> simp [madeCells, h])]
    rfl

/-- New of a size: a ring of empty slots, of colour k2. -/
theorem slnew_n (c : Nat → Nat) (k2 k n : Nat) (hk : k < 21) (hn : n = 2 ^ k) (w : World) (ht : Tab w) :
    Calls Tryz.prog 54 #[.int .i64 (n : Int)] w fun e w' => ∃ p, e = .returned (.tuple #[.pointer (some ⟨p, 0, none⟩), .nilIface]) ∧ ∃ c', Stp (fun _ => False) c c' w w' ∧ RingAt c' k2 w' p k (List.replicate n ⟨0, 0⟩) := by
  have hb := pow_le20 k hk
  rw [← hn] at hb
  have b1 := hb.1
  have b2 := hb.2
  have Ht := Lib.hid ht
  have Hn := Lib.hid hn
  obtain ⟨i0, hi, hz0, hz1, hz2⟩ := info_parts Tryz.infoEv
  have hmk : ∀ wx : World, (Instr.makeSlice 138 (.int .i64 (n : Int)) (.int .i64 (n : Int))).run Tryz.prog wx = .ok (.slice (some ⟨wx.heap.size, 0, none⟩) n n) (wx.alloc (.cells (madeCells #[.int .i64 0, .int .i64 0] (n * 2)) 80)) := fun wx => by
    have := run_make (P := Tryz.prog) wx 138 80 i0 (.agg #[.int .i64 0, .int .i64 0]) Tryz.underlying138 hi hz0 .i64 .i64 n n (by omega) (Int.le_refl _) (by rw [hz2]; omega) (by omega)
    rw [hz1, show (Value.agg #[.int .i64 0, .int .i64 0]).cells = #[.int .i64 0, .int .i64 0] from rfl] at this
    simpa using this
  clear hb ht hn hi hz0 hz1 hz2
  go_enter Tryz.func54, Tryz.ntmps54
  go_wp2_with fail
  have hof := of_pow c k hk w Ht.out
  rw [← Hn.out] at hof
  refine hof.mono ?_
  rintro e w1 ⟨rfl, c1, s1⟩
  clear hof
  have S1 := Lib.hid s1
  clear s1
  go_wp2
  go_region
  go_wp2
  go_ret2
  have S2 := (((S1.out.alloc (.cells #[.int .i64 k] 65) k2).alloc (.cells (madeCells #[.int .i64 0, .int .i64 0] (n * 2)) 80) k2).alloc (.cells #[.int .i64 k, .slice (some ⟨w1.heap.size + 1, 0, none⟩) n n] 140) k2).drew
  refine ⟨_, rfl, _, S2, hk, by simpa using Hn.out, w1.heap.size + 1, n, ?_, ?_⟩
  · simpa using Blk.drew (Blk.new _ k2 ((w1.alloc (.cells #[.int .i64 k] 65)).alloc (.cells (madeCells #[.int .i64 0, .int .i64 0] (n * 2)) 80)) [.int .i64 k, .slice (some ⟨w1.heap.size + 1, 0, none⟩) n n] 140)
  · rw [made_flat]
    have R := (Row.new (paint c1 w1.heap.size k2) k2 (w1.alloc (.cells #[.int .i64 k] 65)) 80 2 n n ((List.replicate n (⟨0, 0⟩ : Ev)).flatMap Ev.cells) (by rw [flat_len Ev.cells 2 Ev.len]; simp) (Nat.le_refl _) (by unfold maxLen; omega)).alloc (.cells #[.int .i64 k, .slice (some ⟨w1.heap.size + 1, 0, none⟩) n n] 140) k2
    rw [List.take_of_length_le (by rw [flat_len Ev.cells 2 Ev.len]; simp)] at R
    simpa using R.drew
end Go.Proofs.YtiphdedfbafhkaaGreatDoor

namespace Go.Proofs.YtiphdedfbafhkaaGreatDoor
open Go.RowKit

/-- The slot of an index. -/
def slotOf (k : Nat) (seq : Int) : Nat := (seq % 2 ^ k).toNat

theorem slotOf_lt (k : Nat) (seq : Int) (hk : k < 21) : slotOf k seq < 2 ^ k ∧ ((slotOf k seq : Nat) : Int) = seq % 2 ^ k := by
  have hb := two_pow_bd k hk
  have h1 : 0 ≤ seq % 2 ^ k := Int.emod_nonneg _ (by omega)
  have h2 : seq % 2 ^ k < 2 ^ k := Int.emod_lt_of_pos _ (by omega)
  have h3 : ((2 ^ k : Nat) : Int) = 2 ^ k := two_pow_cast k
  unfold slotOf
  omega

theorem index_j (k : Nat) (hk : k < 21) (seq : Int) (j : Nat) (hj : (j : Int) = seq % 2 ^ k) (w : World) : Calls Tryz.prog 88 #[.agg #[.int .i64 k], .int .i64 seq] w (fun e w' => e = .returned (.int .i64 j) ∧ Below w.heap.size w w') :=
  (index_k k hk seq w).mono fun _ _ ⟨he, hw⟩ => ⟨by rw [he, hj], by subst hw; exact (((Below.refl _ _).alloc (Nat.le_refl _) _).alloc (by simp) _).alloc (by simp; omega) _⟩

/-- A callee that turns nothing old, met in a region: what S says of old memory alone stays. -/
theorem withB {P : Program} {f : FuncId} {args : Array Value} {w wb : World} {v : Value} (h : Calls P f args w fun e w' => e = .returned v ∧ Below w.heap.size w w') (hb : Below wb.heap.size wb w) :
    Calls P f args w fun e w' => e = .returned v ∧ Below wb.heap.size wb w' :=
  h.mono fun _ _ ⟨he, hl⟩ => ⟨he, hb.trans (hl.mono hb.size)⟩

end Go.Proofs.YtiphdedfbafhkaaGreatDoor

namespace Go.Proofs.YtiphdedfbafhkaaGreatDoor
open Go.RowKit

theorem len_any {c : Nat → Nat} {k : Nat} {w : World} {p : Nat} {l : List Int} {s : Int} (h : ArenaAt c k w p l s) :
    Calls Tryz.prog 18 #[.pointer (some ⟨p, 0, none⟩)] w fun e w' => e = .returned (.int .i64 l.length) ∧ w = w' := by
  obtain ⟨ao, cap, hb, hr⟩ := h
  have c0 := hb.cell 0
  simp at c0
  clear hb hr
  go_enter Tryz.func18, Tryz.ntmps18
  go_wp2
  go_ret
  exact ⟨rfl, rfl⟩

end Go.Proofs.YtiphdedfbafhkaaGreatDoor

namespace Go.Proofs.YtiphdedfbafhkaaGreatDoor
open Go.RowKit

/-- An arena, whatever its count. -/
def ArenaS (c : Nat → Nat) (k : Nat) (w : World) (p : Nat) (l : List Int) : Prop := ∃ s, ArenaAt c k w p l s

theorem ArenaS.stp {J : Nat → Prop} {c c' : Nat → Nat} {k : Nat} {w w' : World} {p : Nat} {l : List Int} (h : ArenaS c k w p l) (st : Stp J c c' w w') (hk : ¬ J k) : ArenaS c' k w' p l := by
  obtain ⟨s, h⟩ := h
  exact ⟨s, h.stp st hk⟩

theorem at_s {c : Nat → Nat} {k : Nat} {w : World} {p : Nat} {l : List Int} {s : Int} (h : ArenaAt c k w p l s) (op : ByteArray) (id : Int) (h0 : 0 ≤ id) (h1 : id < l.length) :
    Calls Tryz.prog 80 #[.pointer (some ⟨p, 0, none⟩), .string op, .int .i64 id] w fun e w' => e = .returned .nilIface ∧ w.setCell ⟨p, 1, none⟩ (.int .i64 (wrap64 (s + 1))) = w' := by
  obtain ⟨ao, cap, hb, hr⟩ := h
  have c0 := hb.cell 0
  have c1 := hb.cell 1
  have f1 := hb.free 1
  simp at c0 c1
  clear hb hr
  have h0' : decide (id < 0) = false := by simp; omega
  go_enter Tryz.func80, Tryz.ntmps80
  go_wp2
  go_ret
  exact ⟨rfl, rfl⟩

theorem load_s {c : Nat → Nat} {k : Nat} {w : World} {p : Nat} {l : List Int} (h : ArenaS c k w p l) (j : Nat) (hj : j < l.length) :
    Calls Tryz.prog 37 #[.pointer (some ⟨p, 0, none⟩), .int .i64 j] w fun e w' => e = .returned (.tuple #[.int .i64 (l.getD j 0), .nilIface]) ∧ ∃ c', Stp (· = k) c c' w w' ∧ ArenaS c' k w' p l := by
  obtain ⟨s, h⟩ := h
  have Hat := Lib.hid h
  obtain ⟨g, off, cap, hb, hr, hc, hf, hne⟩ := h.open_cell hj
  have Hb := Lib.hid hb
  have c0 := hb.cell 0
  simp at c0
  have hlt := hb.lt
  have hc1 : (w.setCell ⟨p, 1, none⟩ (.int .i64 (wrap64 (s + 1)))).cell? ⟨g, off + j, none⟩ = some (.int .i64 (l.getD j 0)) := by
    rw [cell_other (by exact Ne.symm hne)]; exact hc
  clear hb hr h hc hf
  go_enter Tryz.func37, Tryz.ntmps37
  go_wp2_with (go_at_call 80; refine (at_s Hat.out _ _ (by omega) (by omega)).mono ?_; rintro e w' ⟨rfl, rfl⟩)
  go_ret2
  exact ⟨by simp [hj], _, (Stp.refl _ c w).setCell _ Hb.out.1, _, Hat.out.step _⟩

theorem store_s {c : Nat → Nat} {k : Nat} {w : World} {p : Nat} {l : List Int} (h : ArenaS c k w p l) (j : Nat) (v : Int) (hj : j < l.length) :
    Calls Tryz.prog 106 #[.pointer (some ⟨p, 0, none⟩), .int .i64 j, .int .i64 v] w fun e w' => e = .returned .nilIface ∧ ∃ c', Stp (· = k) c c' w w' ∧ ArenaS c' k w' p (l.set j v) := by
  obtain ⟨s, h⟩ := h
  have Hat := Lib.hid h
  obtain ⟨g, off, cap, hb, hr, hc, hf, hne⟩ := (h.step (wrap64 (s + 1))).open_cell hj
  have Hb := Lib.hid hb
  have Hr := Lib.hid hr
  have c0 := hb.cell 0
  simp at c0
  clear hb hr h
  go_enter Tryz.func106, Tryz.ntmps106
  go_wp2_with (go_at_call 80; refine (at_s Hat.out _ _ (by omega) (by omega)).mono ?_; rintro e w' ⟨rfl, rfl⟩)
  go_ret
  obtain ⟨_, _, hb0, _⟩ := Hat.out
  exact ⟨rfl, _, ((Stp.refl _ c w).setCell _ hb0.1).setCell _ Hr.out.2.2.2.2.1, _, ArenaAt.put Hb.out Hr.out j hj v⟩

/-- A buffer: its size, and its first cell. -/
def BufAt (c : Nat → Nat) (k : Nat) (w : World) (p sh first : Nat) : Prop := sh < 21 ∧ (first : Int) ≤ 2097152 ∧ Blk c k w p [.int .i64 sh, .int .i64 first] 229

theorem BufAt.stp {J : Nat → Prop} {c c' : Nat → Nat} {k : Nat} {w w' : World} {p sh first : Nat} (h : BufAt c k w p sh first) (st : Stp J c c' w w') (hk : ¬ J k) : BufAt c' k w' p sh first := ⟨h.1, h.2.1, h.2.2.stp st hk⟩

theorem avround_any {c : Nat → Nat} {k : Nat} {w : World} {p sh first : Nat} (h : BufAt c k w p sh first) (seq : Int) :
    Calls Tryz.prog 140 #[.pointer (some ⟨p, 0, none⟩), .int .i64 seq] w fun e w' => e = .returned (.int .i64 (seq / 2 ^ sh)) ∧ Below w.heap.size w w' := by
  obtain ⟨hsh, _, hb⟩ := h
  have c0 := hb.cell 0
  simp at c0
  clear hb
  go_enter Tryz.func140, Tryz.ntmps140
  go_wp2_with (go_at_call 151; refine (round_k sh hsh seq _).mono ?_; rintro e w' ⟨rfl, rfl⟩)
  go_ret
  exact ⟨rfl, (Below.refl _ _).alloc (Nat.le_refl _) _⟩

theorem avcell_any {c : Nat → Nat} {k : Nat} {w : World} {p sh first : Nat} (h : BufAt c k w p sh first) (seq : Int) :
    Calls Tryz.prog 139 #[.pointer (some ⟨p, 0, none⟩), .int .i64 seq] w fun e w' => e = .returned (.int .i64 ((first + slotOf sh seq : Nat) : Int)) ∧ Below w.heap.size w w' := by
  obtain ⟨hsh, hf, hb⟩ := h
  obtain ⟨hs1, hs2⟩ := slotOf_lt sh seq hsh
  have hbd := two_pow_bd sh hsh
  have hj1 : ((slotOf sh seq : Nat) : Int) ≤ 1048576 := by have := two_pow_cast sh; omega
  generalize slotOf sh seq = j at *
  have Hj := Lib.hid hs2
  have c0 := hb.cell 0
  have c1 := hb.cell 1
  simp at c0 c1
  have hlt := hb.lt
  have hw : IntKind.i64.wrap ((first : Int) + (j : Int)) = (first : Int) + (j : Int) := IntWalk.i64_in _ (by omega)
  clear hb hs1 hs2 hbd
  go_enter Tryz.func139, Tryz.ntmps139
  go_wp2
  go_region_with ((go_at_call 88; refine (withB (wb := w) (index_j sh hsh seq j Hj.out _) ?_).mono ?_; (exact (Below.refl _ _).drew); rintro e w2 ⟨rfl, hB2⟩; have k0 := (hB2.cell (World.block_lt_of_cell? _ _ c0)).trans c0; have k1 := (hB2.cell (World.block_lt_of_cell? _ _ c1)).trans c1))
  all_goals
    go_wp2
    go_ret
    exact ⟨by rw [Int.natCast_add]; rfl, hB2⟩

theorem avright_ok (p q : Nat) (op : ByteArray) (seq : Int) (h0 : 0 ≤ seq) (h1 : seq ≤ 4611686018427387904) (w : World) :
    Calls Tryz.prog 138 #[.pointer (some ⟨p, 0, none⟩), .pointer (some ⟨q, 0, none⟩), .string op, .int .i64 seq] w fun e w' => e = .returned .nilIface ∧ w = w' := by
  have t0 : decide (seq < 0) = false := by simp; omega
  have t1 : decide ((4611686018427387904 : Int) < seq) = false := by simp; omega
  go_enter Tryz.func138, Tryz.ntmps138
  go_wp2
  go_ret
  exact ⟨rfl, rfl⟩

/-- Is an index shown? -/
def shownAt (l : List Int) (first sh : Nat) (seq : Int) : Bool := l.getD (first + slotOf sh seq) 0 == seq / 2 ^ sh

theorem avis_ok {c : Nat → Nat} {kb ka : Nat} {w : World} {p q sh first : Nat} {l : List Int} (hb : BufAt c kb w p sh first) (ha : ArenaS c ka w q l) (hne : kb ≠ ka) (hl : first + 2 ^ sh ≤ l.length) (seq : Int) (h0 : 0 ≤ seq) (h1 : seq ≤ 4611686018427387904) :
    Calls Tryz.prog 143 #[.pointer (some ⟨p, 0, none⟩), .pointer (some ⟨q, 0, none⟩), .int .i64 seq] w fun e w' => e = .returned (.tuple #[.bool (shownAt l first sh seq), .nilIface]) ∧ ∃ c', Stp (· = ka) c c' w w' ∧ ArenaS c' ka w' q l := by
  have Hb := Lib.hid hb
  have Ha := Lib.hid ha
  have hj := (slotOf_lt sh seq hb.1).1
  have Hj := Lib.hid (show first + slotOf sh seq < l.length by omega)
  clear hj hb ha hl
  go_enter Tryz.func143, Tryz.ntmps143
  go_wp2_with (go_at_call 138; refine (avright_ok _ _ _ _ h0 h1 _).mono ?_; rintro e w' ⟨rfl, rfl⟩)
  refine (avcell_any Hb.out seq).mono ?_
  rintro e w1 ⟨rfl, b1⟩
  have st1 := Stp.ofBelow (c := c) b1 2
  have A1 := Lib.hid (Ha.out.stp st1 id)
  have B1 := Lib.hid (Hb.out.stp st1 id)
  have S1 := Lib.hid st1
  clear b1 st1
  go_wp2_with fail
  refine (load_s A1.out _ Hj.out).mono ?_
  rintro e w2 ⟨rfl, c2, s2, a2⟩
  have B2 := Lib.hid (B1.out.stp s2 hne)
  have S2 := Lib.hid ((S1.out.mono (fun _ h => h.elim)).trans s2)
  have A2 := Lib.hid a2
  have Hsh := Lib.hid (show shownAt l first sh seq = (l.getD (first + slotOf sh seq) 0 == seq / 2 ^ sh) from rfl)
  generalize l.getD (first + slotOf sh seq) 0 = v at *
  clear s2 a2
  go_wp2_with fail
  refine (avround_any B2.out seq).mono ?_
  rintro e w3 ⟨rfl, b3⟩
  have st3 := Stp.ofBelow (c := c2) b3 2
  have S3 := Lib.hid (S2.out.trans (st3.mono (fun _ h => h.elim)))
  have A3 := Lib.hid (A2.out.stp st3 id)
  clear st3 b3
  go_wp2
  go_ret2
  exact ⟨by rw [Hsh.out]; rfl, _, S3.out, A3.out⟩

def showAll (l : List Int) (first sh : Nat) (lo : Int) (n : Nat) : List Int := (List.range n).foldl (fun l i => l.set (first + slotOf sh (lo + (i : Nat))) ((lo + (i : Nat)) / 2 ^ sh)) l
theorem showAll_succ (l : List Int) (first sh : Nat) (lo : Int) (n : Nat) : showAll l first sh lo (n + 1) = (showAll l first sh lo n).set (first + slotOf sh (lo + (n : Nat))) ((lo + (n : Nat)) / 2 ^ sh) := by
  simp [showAll, List.range_succ]
theorem showAll_len (l : List Int) (first sh : Nat) (lo : Int) (n : Nat) : (showAll l first sh lo n).length = l.length := by
  induction n with
  | zero => rfl
  | succ n ih => rw [showAll_succ, List.length_set, ih]

def ShowRel (c : Nat → Nat) (ka : Nat) (w : World) (q : Nat) (l : List Int) (first sh : Nat) (lo hi : Int) (i : Value) (wr : World) : Prop :=
  ∃ (c' : Nat → Nat) (j : Nat), i = .int .i64 (lo + j) ∧ lo + j ≤ hi + 1 ∧ Stp (· = ka) c c' w wr ∧ ArenaS c' ka wr q (showAll l first sh lo j)

/-- Show of indexes that may be. -/
theorem avshow_ok {c : Nat → Nat} {kb ka : Nat} {w : World} {p q sh first : Nat} {l : List Int} (hb : BufAt c kb w p sh first) (ha : ArenaS c ka w q l) (hne : kb ≠ ka) (hl : first + 2 ^ sh ≤ l.length) (lo hi : Int) (h0 : 0 ≤ lo) (h1 : lo ≤ hi) (h2 : hi ≤ 4611686018427387904) (h3 : hi - lo < 2 ^ sh) :
    Calls Tryz.prog 107 #[.pointer (some ⟨p, 0, none⟩), .pointer (some ⟨q, 0, none⟩), .int .i64 lo, .int .i64 hi] w fun e w' => e = .returned .nilIface ∧ ∃ c', Stp (· = ka) c c' w w' ∧
      ArenaS c' ka w' q (showAll l first sh lo (hi - lo + 1).toNat) := by
  have Hl := Lib.hid hl
  have Hb := Lib.hid hb
  have Ha := Lib.hid ha
  obtain ⟨hsh, _, hbb⟩ := hb
  have c0 := hbb.cell 0
  simp at c0
  have t0 : decide (hi < lo) = false := by simp; omega
  have t1 : decide ((4611686018427387904 : Int) < hi) = false := by simp; omega
  have t2 : decide ((2 : Int) ^ sh ≤ hi - lo) = false := by simp; omega
  clear hbb ha
  go_enter Tryz.func107, Tryz.ntmps107
  go_wp2_with (first
    | (go_at_call 138; refine (avright_ok _ _ _ _ h0 (by omega) _).mono ?_; rintro e w' ⟨rfl, rfl⟩)
    | (go_at_call 30; refine (slots_k sh hsh _).mono ?_; rintro e w' ⟨rfl, rfl⟩))
  go_loopw [10] (fun i wr => ShowRel c ka w q l first sh lo hi i wr) (fun i _ => (hi + 1 - intOf i).toNat)
  case atStart => exact ⟨_, 0, by simp, by omega, (Stp.refl _ c w).alloc _ 2, by simpa [showAll] using Ha.out.stp ((Stp.refl (fun _ => False) c w).alloc (.cells #[.int .i64 sh] 65) 2) id⟩
  case round =>
    obtain ⟨c', j, rfl, hj, st, hat⟩ := hrel
    have St := Lib.hid st
    have Hat := Lib.hid hat
    clear st hat
    by_cases hlt : lo + (j : Int) ≤ hi
    · have hjl : first + slotOf sh (lo + j) < (showAll l first sh lo j).length := by
        rw [showAll_len]
        have := (slotOf_lt sh (lo + j) hsh).1
        have := Hl.out
        omega
      have Hjl := Lib.hid hjl
      clear hjl
      go_wp2_with fail
      refine (avcell_any (Hb.out.stp St.out hne) (lo + j)).mono ?_
      rintro e w2 ⟨rfl, b2⟩
      have st2 := Stp.ofBelow (c := c') b2 2
      have B2 := Lib.hid ((Hb.out.stp St.out hne).stp st2 id)
      have A2 := Lib.hid (Hat.out.stp st2 id)
      have S2 := Lib.hid (St.out.trans (st2.mono (fun _ h => h.elim)))
      clear b2 st2
      go_wp2_with fail
      refine (avround_any B2.out (lo + j)).mono ?_
      rintro e w3 ⟨rfl, b3⟩
      have st3 := Stp.ofBelow (c := paint c' wr.heap.size 2) b3 2
      have A3 := Lib.hid (A2.out.stp st3 id)
      have S3 := Lib.hid (S2.out.trans (st3.mono (fun _ h => h.elim)))
      clear b3 st3 S2 A2 B2
      go_wp2_with fail
      refine (store_s A3.out _ _ Hjl.out).mono ?_
      rintro e w4 ⟨rfl, c4, s4, a4⟩
      have A4 := Lib.hid a4
      have S4 := Lib.hid (S3.out.trans s4)
      clear s4 a4 S3 A3
      go_wp2
      go_roundw
      case rel => exact ⟨c4, j + 1, by rw [Int.natCast_add, ← Int.add_assoc]; go_num, by omega, S4.out, by rw [showAll_succ]; exact A4.out⟩
      case measure => simp [intOf]; omega
    · have hjn : j = (hi - lo + 1).toNat := by omega
      have Hj := Lib.hid hjn
      clear hjn
      go_wp2
      go_ret
      exact ⟨rfl, c', St.out, by rw [← Hj.out]; exact Hat.out⟩
end Go.Proofs.YtiphdedfbafhkaaGreatDoor

namespace Go.Proofs.YtiphdedfbafhkaaGreatDoor
open Go.RowKit

/-- The first place of a number; -1: none. -/
def ixOf (l : List Int) (v : Int) : Int := if v ∈ l then (l.idxOf v : Nat) else -1

theorem Tryz.infoInt : (Tryz.prog.info? 3).map (fun i => (i.zero, i.size, i.bytes)) = some (some (.int .i64 0), 1, 8) := by kernel_rfl

theorem ints_one (l : List Int) : ∀ u ∈ l.map (Value.int .i64), u.oneCell' = true := by
  intro u hu
  obtain ⟨x, _, rfl⟩ := List.mem_map.1 hu
  rfl

/-- slices.Clone of numbers: a new array of colour k2. -/
theorem clone_in {c : Nat → Nat} {k : Nat} {w : World} {ao : Option Addr} {n cap : Nat} {l : List Int} (h : In c k w 1 ao n cap (l.map (Value.int .i64))) (k2 : Nat) (hb : (n : Int) ≤ 1048576) :
    Calls Tryz.prog 71 #[.slice ao n cap] w fun e w' => ∃ ao' cap', e = .returned (.slice ao' n cap') ∧ ∃ c', Stp (fun _ => False) c c' w w' ∧ Row c' k2 w' 3 1 ao' n cap' (l.map (Value.int .i64)) := by
  have H := Lib.hid h
  have Hb := Lib.hid hb
  clear hb
  cases ao with
  | none =>
    have hn : n = 0 := by
      rcases Nat.eq_zero_or_pos n with h0 | h0
      · exact h0
      · obtain ⟨a, ha, _⟩ := h.2.2.2.2 h0
        cases ha
    subst hn
    obtain rfl := h.2.2.2.1 rfl
    obtain rfl : l = [] := by
      have := h.1
      simp at this
      exact this
    clear h H
    have hr := fun wx => Lib.run_eql_slice_nil (P := Tryz.prog) wx 29 3 none 0 0 0 0 Tryz.underlying29
    go_enter Tryz.func71, Tryz.ntmps71
    go_wp2
    go_ret
    exact ⟨none, 0, rfl, c, Stp.refl _ _ _, Row.nil _ _ _ _ _⟩
  | some a =>
    clear h
    have hr := fun wx => Lib.run_eql_slice_nil (P := Tryz.prog) wx 29 3 (some a) n cap 0 0 Tryz.underlying29
    go_enter Tryz.func71, Tryz.ntmps71
    go_wp2_with (at_builtin; refine wpList_append_row _ rfl (.tmp 5) (.tmp 6) 29 rfl (paint c w.heap.size k2) k2 3 (.int .i64 0) 1 8 Tryz.underlying29 Tryz.infoInt rfl (some ⟨w.heap.size, 0, none⟩) 0 0 [] rfl (Row.new c k2 w 3 1 0 0 [] rfl (Nat.le_refl _) (Nat.zero_le _)) (.slice (some a) n cap) n (l.map (Value.int .i64)) rfl ?c0 ?c1 ?c2 ?c3 ?_)
    case c0 => exact (H.out.stp ((Stp.refl (fun _ => False) c w).alloc _ k2) id).src
    case c1 => exact ints_one l
    case c2 => have := Hb.out; unfold maxLen; omega
    case c3 => have := Hb.out; omega
    intro ao' cap' w1 hr1 st1 ot1
    have Hr1 := Lib.hid hr1
    have St1 := Lib.hid (Stp.fresh st1 ot1)
    clear hr1 st1 ot1 hr
    go_wp2
    go_ret
    exact ⟨ao', cap', by simp, _, St1.out, by simpa using Hr1.out⟩

end Go.Proofs.YtiphdedfbafhkaaGreatDoor

namespace Go.Proofs.YtiphdedfbafhkaaGreatDoor
open Go.RowKit

def GroupAt (c : Nat → Nat) (k : Nat) (w : World) (p : Nat) (l : List Int) : Prop :=
  ∃ ao cap, Blk c k w p [.slice ao l.length cap] 137 ∧ Row c k w 3 1 ao l.length cap (l.map (Value.int .i64))

theorem GroupAt.stp {J : Nat → Prop} {c c' : Nat → Nat} {k : Nat} {w w' : World} {p : Nat} {l : List Int} (h : GroupAt c k w p l) (st : Stp J c c' w w') (hk : ¬ J k) : GroupAt c' k w' p l := by
  obtain ⟨ao, cap, hb, hr⟩ := h
  exact ⟨ao, cap, hb.stp st hk, hr.stp st hk⟩

/-- What is wrong with a cell that is put in; 0: nothing. -/
def gaddErr (l : List Int) (id : Int) : Int := if id < 0 ∨ 2097152 ≤ id then 1 else if id ∈ l then 4 else if (32 : Int) ≤ (l.length : Int) then 8 else 0

theorem gcells_any {c : Nat → Nat} {k : Nat} {w : World} {p : Nat} {l : List Int} (h : GroupAt c k w p l) (k2 : Nat) (hl : (l.length : Int) ≤ 1048576) :
    Calls Tryz.prog 144 #[.pointer (some ⟨p, 0, none⟩)] w fun e w' => ∃ ao' cap', e = .returned (.slice ao' l.length cap') ∧ ∃ c', Stp (fun _ => False) c c' w w' ∧ Row c' k2 w' 3 1 ao' l.length cap' (l.map (Value.int .i64)) := by
  obtain ⟨ao, cap, hb, hr⟩ := h
  have c0 := hb.cell 0
  simp at c0
  have Hr := Lib.hid hr
  have Hl := Lib.hid hl
  clear hb hr hl
  go_enter Tryz.func144, Tryz.ntmps144
  go_wp2_with (go_at_call 71; refine (clone_in Hr.out.toIn k2 Hl.out).mono ?_; rintro e w' ⟨ao', cap', rfl, c', s', hr'⟩)
  go_ret
  exact ⟨_, _, rfl, c', s', hr'⟩

/-- What the cells of a group have. -/
def valAt (la : List Int) (id : Int) : Int := la.getD id.toNat 0

def LeastRel (c : Nat → Nat) (ka : Nat) (w : World) (q : Nat) (la : List Int) (s : Int) (l : List Int) (most : Int) (m i : Value) (wr : World) : Prop :=
  ∃ (c' : Nat → Nat) (j : Nat) (x : Int), i = .int .i64 j ∧ j ≤ l.length ∧ m = .int .i64 x ∧ x = ((l.take j).map (valAt la)).foldl min most ∧ Stp (· = ka) c c' w wr ∧ ArenaAt c' ka wr q la (s + j)

def addRef (r : List Int × Int) (id : Int) : List Int × Int := if r.2 = 0 then (if gaddErr r.1 id = 0 then (r.1 ++ [id], 0) else (r.1, gaddErr r.1 id)) else r

def OfRel (c : Nat → Nat) (k : Nat) (w : World) (l : List Int) (i : Value) (wr : World) : Prop :=
  ∃ (c' : Nat → Nat) (j : Nat) (g : List Int), i = .int .i64 j ∧ j ≤ l.length ∧ (l.take j).foldl addRef ([], 0) = (g, 0) ∧ Stp (· = k) c c' w wr ∧ GroupAt c' k wr w.heap.size g

end Go.Proofs.YtiphdedfbafhkaaGreatDoor

namespace Go.Proofs.YtiphdedfbafhkaaGreatDoor
open Go.RowKit

theorem three_boxes (c : Nat → Nat) (k : Nat) (w : World) (xs ys zs : List Value) (t : TypeId) :
    ∃ c', Stp (fun _ => False) c c' w (((w.alloc (.cells xs.toArray t)).alloc (.cells ys.toArray t)).alloc (.cells zs.toArray t)) ∧
      Blk c' k (((w.alloc (.cells xs.toArray t)).alloc (.cells ys.toArray t)).alloc (.cells zs.toArray t)) w.heap.size xs t ∧
      Blk c' k (((w.alloc (.cells xs.toArray t)).alloc (.cells ys.toArray t)).alloc (.cells zs.toArray t)) (w.heap.size + 1) ys t := by
  refine ⟨_, (((Stp.refl _ c w).alloc _ k).alloc _ k).alloc _ k, ((Blk.new c k w xs t).alloc _ k).alloc _ k, ?_⟩
  have := (Blk.new (paint c w.heap.size k) k (w.alloc (.cells xs.toArray t)) ys t).alloc (.cells zs.toArray t) k
  simpa using this

theorem scdone (ao : Option Addr) (n cap : Nat) (m : Int) (w : World) :
    Calls Tryz.prog 119 #[.agg #[.slice ao n cap, .int .i64 m]] w fun e w' => e = .returned (.bool ((n : Int) == 0)) ∧ w.alloc (.cells #[.slice ao n cap, .int .i64 m] 31) = w' := by
  go_enter Tryz.func119, Tryz.ntmps119
  go_wp2
  go_ret
  exact ⟨rfl, rfl⟩

theorem scleast (ao : Option Addr) (n cap : Nat) (m : Int) (w : World) :
    Calls Tryz.prog 122 #[.agg #[.slice ao n cap, .int .i64 m]] w fun e w' => e = .returned (.int .i64 m) ∧ w.alloc (.cells #[.slice ao n cap, .int .i64 m] 31) = w' := by
  go_enter Tryz.func122, Tryz.ntmps122
  go_wp2
  go_ret
  exact ⟨rfl, rfl⟩

theorem gscan_any {c : Nat → Nat} {k : Nat} {w : World} {p : Nat} {l : List Int} (h : GroupAt c k w p l) (k2 : Nat) (hl : (l.length : Int) ≤ 1048576) (most : Int) :
    Calls Tryz.prog 118 #[.pointer (some ⟨p, 0, none⟩), .int .i64 most] w fun e w' => ∃ ao' cap', e = .returned (.agg #[.slice ao' l.length cap', .int .i64 most]) ∧ ∃ c', Stp (fun _ => False) c c' w w' ∧ Row c' k2 w' 3 1 ao' l.length cap' (l.map (Value.int .i64)) := by
  have H := Lib.hid (h.stp ((Stp.refl (fun _ => False) c w).alloc (.cells #[.slice none 0 0, .int .i64 0] 31) 2) id)
  have Hl := Lib.hid hl
  clear h hl
  go_enter Tryz.func118, Tryz.ntmps118
  go_wp2_with fail
  refine (gcells_any H.out k2 Hl.out).mono ?_
  rintro e w' ⟨ao', cap', rfl, c', s', hr'⟩
  have B := (Blk.new c 2 w [.slice none 0 0, .int .i64 0] 31).stp s' id
  have d0 := B.cell 0
  have d1 := B.cell 1
  have f0 := B.free 0
  have f1 := B.free 1
  simp at d0 d1
  have hlt := B.lt
  have Hb := Lib.hid B
  have S := Lib.hid (((Stp.refl (fun _ => False) c w).alloc (.cells #[.slice none 0 0, .int .i64 0] 31) 2).trans s')
  have R := Lib.hid hr'
  clear B s' hr'
  go_wp2
  refine bodyPost_ret (v := .agg #[.slice ao' l.length cap', .int .i64 most]) (by simp [results, Tryz.results118, go_sem, d0, d1]) rfl ⟨ao', cap', rfl, c', (S.out.setNew _ (Nat.le_refl _)).setNew _ (Nat.le_refl _), ?_⟩
  exact (R.out.other (p := ⟨w.heap.size, 0, none⟩) _ (R.out.ne_blk Hb.out (by decide)) rfl).other (p := ⟨w.heap.size, 1, none⟩) _ (R.out.ne_blk Hb.out (by decide)) rfl

end Go.Proofs.YtiphdedfbafhkaaGreatDoor

namespace Go.Proofs.YtiphdedfbafhkaaGreatDoor
open Go.RowKit

def WhoRel (c : Nat → Nat) (ka kw : Nat) (w : World) (q : Nat) (la : List Int) (s : Int) (l : List Int) (least : Int) (v i : Value) (wr : World) : Prop :=
  ∃ (c' : Nat → Nat) (j : Nat) (ao : Option Addr) (cap : Nat) (out : List Int), i = .int .i64 j ∧ j ≤ l.length ∧ v = .slice ao out.length cap ∧ out = (l.take j).filter (fun x => valAt la x == least) ∧
    Stp (fun k => k = ka ∨ k = kw) c c' w wr ∧ ArenaAt c' ka wr q la (s + j) ∧ Row c' kw wr 3 1 ao out.length cap (out.map (Value.int .i64))

end Go.Proofs.YtiphdedfbafhkaaGreatDoor

namespace Go.Proofs.YtiphdedfbafhkaaGreatDoor
open Go.RowKit

theorem swap_sno {c : Nat → Nat} {k : Nat} {w : World} {p : Nat} {l : List Int} (h : ArenaS c k w p l) (j : Nat) (old v : Int) (hj : j < l.length) (ho : l.getD j 0 ≠ old) :
    Calls Tryz.prog 123 #[.pointer (some ⟨p, 0, none⟩), .int .i64 j, .int .i64 old, .int .i64 v] w fun e w' => e = .returned (.tuple #[.bool false, .nilIface]) ∧ ∃ c', Stp (· = k) c c' w w' ∧ ArenaS c' k w' p l := by
  obtain ⟨s, h⟩ := h
  have Hat := Lib.hid h
  obtain ⟨g, off, cap, hb, hr, hc, hf, hne⟩ := (h.step (wrap64 (s + 1))).open_cell hj
  have Hb := Lib.hid hb
  have c0 := hb.cell 0
  simp at c0
  generalize l.getD j 0 = x at *
  have ho' : (x != old) = true := by simpa using ho
  clear hb hr h ho
  go_enter Tryz.func123, Tryz.ntmps123
  go_wp2_with (go_at_call 80; refine (at_s Hat.out _ _ (by omega) (by omega)).mono ?_; rintro e w' ⟨rfl, rfl⟩)
  go_ret2
  exact ⟨rfl, _, (Stp.refl _ c w).setCell _ Hb.out.1, _, Hat.out.step _⟩

theorem swap_syes {c : Nat → Nat} {k : Nat} {w : World} {p : Nat} {l : List Int} (h : ArenaS c k w p l) (j : Nat) (old v : Int) (hj : j < l.length) (ho : l.getD j 0 = old) :
    Calls Tryz.prog 123 #[.pointer (some ⟨p, 0, none⟩), .int .i64 j, .int .i64 old, .int .i64 v] w fun e w' => e = .returned (.tuple #[.bool true, .nilIface]) ∧ ∃ c', Stp (· = k) c c' w w' ∧ ArenaS c' k w' p (l.set j v) := by
  obtain ⟨s, h⟩ := h
  have Hat := Lib.hid h
  obtain ⟨g, off, cap, hb, hr, hc, hf, hne⟩ := (h.step (wrap64 (s + 1))).open_cell hj
  have Hb := Lib.hid hb
  have Hr := Lib.hid hr
  have c0 := hb.cell 0
  simp at c0
  rw [ho] at hc
  have ho' : (old != old) = false := by simp
  clear hb hr h ho
  go_enter Tryz.func123, Tryz.ntmps123
  go_wp2_with (go_at_call 80; refine (at_s Hat.out _ _ (by omega) (by omega)).mono ?_; rintro e w' ⟨rfl, rfl⟩)
  go_ret2
  exact ⟨rfl, _, ((Stp.refl _ c w).setCell _ Hb.out.1).setCell _ Hr.out.2.2.2.2.1, _, ArenaAt.put Hb.out Hr.out j hj v⟩

def LeastRelS (c : Nat → Nat) (ka : Nat) (w : World) (q : Nat) (la : List Int) (l : List Int) (most : Int) (m i : Value) (wr : World) : Prop :=
  ∃ (c' : Nat → Nat) (j : Nat) (x : Int), i = .int .i64 j ∧ j ≤ l.length ∧ m = .int .i64 x ∧ x = ((l.take j).map (valAt la)).foldl min most ∧ Stp (· = ka) c c' w wr ∧ ArenaS c' ka wr q la

theorem scstep_s {c : Nat → Nat} {k ka : Nat} {w : World} {q : Nat} {ao : Option Addr} {n cap : Nat} {x : Int} {r la : List Int} (h : In c k w 1 ao n cap ((x :: r).map (Value.int .i64))) (ha : ArenaS c ka w q la) (hne : k ≠ ka) (hx : 0 ≤ x ∧ x < la.length) (m : Int) :
    Calls Tryz.prog 121 #[.agg #[.slice ao n cap, .int .i64 m], .pointer (some ⟨q, 0, none⟩)] w fun e w' => ∃ ao' cap', e = .returned (.tuple #[.agg #[.slice ao' (n - 1) cap', .int .i64 (min m (valAt la x))], .nilIface]) ∧ ∃ c', Stp (· = ka) c c' w w' ∧ ArenaS c' ka w' q la ∧ In c' k w' 1 ao' (n - 1) cap' (r.map (Value.int .i64)) := by
  have hn : 0 < n := by have := h.1; simp at this; omega
  have hn0 : ((n : Int) == 0) = false := by simp; omega
  obtain ⟨a, hao, hc⟩ := h.ints hn
  obtain ⟨_, ha', hck, hal, _⟩ := h.2.2.2.2 hn
  subst hao
  cases ha'
  simp [Addr.add] at hc
  obtain ⟨t, ht⟩ := Int.eq_ofNat_of_zero_le hx.1
  have htl : t < la.length := by omega
  have hA : ∀ o1 o2 o3 : Obj, (((w.alloc o1).alloc o2).alloc o3).cell? a = some (.int .i64 (t : Int)) := fun o1 o2 o3 => by
    rw [World.cell?_alloc_lt _ _ _ (by simp; omega), World.cell?_alloc_lt _ _ _ (by simp; omega), World.cell?_alloc_lt _ _ _ hal, hc, ht]
  obtain ⟨c3, st3, B0, B1⟩ := three_boxes c (ka + 1) w [.slice (some a) n cap, .int .i64 m] [.slice none 0 0, .int .i64 0] [.slice (some a) n cap, .int .i64 m] 31
  have S3 := Lib.hid st3
  have Ha := Lib.hid (ha.stp st3 id)
  have HB0 := Lib.hid B0
  have HB1 := Lib.hid B1
  have hv : valAt la x = la.getD t 0 := by rw [ht]; rfl
  have Hv := Lib.hid hv
  have Hin := Lib.hid (h.drop (q := 1) (by omega))
  have Hcap := Lib.hid h.2.1
  clear h ha hx hc st3 B0 B1 hv ht
  go_enter Tryz.func121, Tryz.ntmps121
  go_wp2_with (go_at_call 119; refine (scdone _ _ _ _ _).mono ?_; rintro e w' ⟨rfl, rfl⟩)
  refine (load_s Ha.out t htl).mono ?_
  rintro e w2 ⟨rfl, c2, s2, h2⟩
  have B0 := HB0.out.stp s2 (by omega)
  have B1 := HB1.out.stp s2 (by omega)
  have d0 := B0.cell 0
  have d1 := B0.cell 1
  have e0 := B1.cell 0
  have e1 := B1.cell 1
  have f0 := B1.free 0
  have f1 := B1.free 1
  simp at d0 d1 e0 e1
  have hlt := B1.lt
  have S := Lib.hid ((S3.out.mono (fun _ h => h.elim)).trans s2)
  have H2 := Lib.hid h2
  have X1 := Lib.hid B1
  generalize la.getD t 0 = v at *
  clear B0 B1 HB0 HB1 s2 h2
  go_wp2
  have hcap := Hcap.out
  have i1 : (1 : Int) ≤ (n : Int) := by omega
  have i2 : (n : Int) ≤ (cap : Int) := by omega
  obtain ⟨mm, hmm⟩ : ∃ mm : Int, (if v < m then v else m) = mm := ⟨_, rfl⟩
  have Hmm : Hid (min m (valAt la x) = mm) := Lib.hid (by rw [Hv.out, ← hmm]; split <;> omega)
  by_cases hc1 : cap = 1
  · subst hc1
    obtain rfl : n = 1 := by omega
    go_region
    go_wp2
    have T : Stp (· = ka + 1) c2 c2 w2 _ := (((Stp.refl (· = ka + 1) c2 w2).setCell (p := ⟨w.heap.size + 1, 0, none⟩) (.slice (some a) 0 0) X1.out.1).setCell (p := ⟨w.heap.size + 1, 1, none⟩) (.int .i64 mm) X1.out.1).drew
    refine bodyPost_ret (v := .tuple #[.agg #[.slice (some a) 0 0, .int .i64 mm], .nilIface]) (by simp [results, Tryz.results121, go_sem, e0, e1]) rfl ⟨some a, 0, by rw [Hmm.out], c2, ((S.out.setNew _ (by simp)).setNew _ (by simp)).drew, H2.out.stp T (by omega), ?_⟩
    have := Hin.out.stp (((S.out.setNew (p := ⟨w.heap.size + 1, 0, none⟩) (.slice (some a) 0 0) (by simp)).setNew (p := ⟨w.heap.size + 1, 1, none⟩) (.int .i64 mm) (by simp)).drew) hne
    simpa using this
  · have hc2 : (1 : Int) < (cap : Int) := by omega
    go_region
    go_wp2
    have T : Stp (· = ka + 1) c2 c2 w2 _ := (((Stp.refl (· = ka + 1) c2 w2).setCell (p := ⟨w.heap.size + 1, 0, none⟩) (.slice (some (a.add 1)) (n - 1) (cap - 1)) X1.out.1).setCell (p := ⟨w.heap.size + 1, 1, none⟩) (.int .i64 mm) X1.out.1).drew
    refine bodyPost_ret (v := .tuple #[.agg #[.slice (some (a.add 1)) (n - 1) (cap - 1), .int .i64 mm], .nilIface]) (by simp [results, Tryz.results121, go_sem, e0, e1]) rfl ⟨some (a.add 1), cap - 1, by rw [Hmm.out], c2, ((S.out.setNew _ (by simp)).setNew _ (by simp)).drew, H2.out.stp T (by omega), ?_⟩
    have := Hin.out.stp (((S.out.setNew (p := ⟨w.heap.size + 1, 0, none⟩) (.slice (some (a.add 1)) (n - 1) (cap - 1)) (by simp)).setNew (p := ⟨w.heap.size + 1, 1, none⟩) (.int .i64 mm) (by simp)).drew) hne
    simpa [hc1, Addr.add] using this
end Go.Proofs.YtiphdedfbafhkaaGreatDoor

namespace Go.Proofs.YtiphdedfbafhkaaGreatDoor
open Go.RowKit

/-- New of a buffer: its cells are laid behind the arena's. -/
def NewRel (c : Nat → Nat) (ka kb : Nat) (w : World) (q p k : Nat) (l : List Int) (s : Int) (i : Value) (wr : World) : Prop :=
  ∃ (c' : Nat → Nat) (j : Nat), i = .int .i64 j ∧ (j : Int) ≤ 2 ^ k ∧ Stp (· = ka) c c' w wr ∧ ArenaAt c' ka wr q (l ++ List.replicate j (-1)) s ∧ BufAt c' kb wr p k l.length

set_option maxHeartbeats 1000000 in
theorem avnew_ok {c : Nat → Nat} {ka : Nat} {w : World} {q : Nat} {l : List Int} {s : Int} (ha : ArenaAt c ka w q l s) (kb k : Nat) (hne : kb ≠ ka) (hk : k < 21) (hl : (l.length : Int) + 2 ^ k ≤ 2097152) :
    Calls Tryz.prog 104 #[.pointer (some ⟨q, 0, none⟩), .agg #[.int .i64 k]] w fun e w' => ∃ p, e = .returned (.tuple #[.pointer (some ⟨p, 0, none⟩), .nilIface]) ∧ ∃ c', Stp (· = ka) c c' w w' ∧ ArenaAt c' ka w' q (l ++ List.replicate (2 ^ k) (-1)) s ∧ BufAt c' kb w' p k l.length := by
  have Ha := Lib.hid ha
  have hbd := two_pow_bd k hk
  have b1 := hbd.1
  have b2 := hbd.2
  have hwp := wrap_two_pow k hk
  have hlen : (l.length : Int) ≤ 2097152 := by omega
  have t0 : decide (2097152 - (l.length : Int) < 2 ^ k) = false := by simp; omega
  clear ha hbd
  go_enter Tryz.func104, Tryz.ntmps104
  go_wp2_with fail
  refine (slots_k k hk _).mono ?_
  rintro e w' ⟨rfl, rfl⟩
  obtain ⟨c1, -, S1⟩ := (((Stp.refl (fun _ => False) c w).alloc (.cells #[.int .i64 k] 65) 2).alloc (.cells #[.int .i64 k] 65) 2).name
  have A1 := Lib.hid (Ha.out.stp S1.out id)
  go_wp2_with (go_at_call 18; refine (len_any A1.out).mono ?_; rintro e w' ⟨rfl, rfl⟩)
  obtain ⟨wb, hwb⟩ : ∃ wb : World, wb = (w.alloc (.cells #[.int .i64 k] 65)).alloc (.cells #[.int .i64 k] 65) := ⟨_, rfl⟩
  have x0 : wb.cell? ⟨w.heap.size, 0, none⟩ = some (.int .i64 k) := by subst hwb; simp
  have hws : wb.heap.size = w.heap.size + 1 + 1 := by subst hwb; simp
  rw [← hwb] at A1 S1 ⊢
  clear hwb
  have hlt : w.heap.size < wb.heap.size := World.block_lt_of_cell? _ _ x0
  have Hws := Lib.hid hws
  clear hws
  go_region_with ((go_at_call 18; refine (len_any (A1.out.stp (Stp.refl (fun _ => False) c1 wb).drew id)).mono ?_; rintro e w' ⟨rfl, rfl⟩))
  all_goals
    have S2 := Lib.hid ((S1.out.alloc (.cells #[.int .i64 k, .int .i64 l.length] 229) kb).drew)
    have A2 := Lib.hid (A1.out.stp ((Stp.refl (fun _ => False) c1 wb).alloc (.cells #[.int .i64 k, .int .i64 l.length] 229) kb).drew id)
    have B2 := Lib.hid (Blk.new c1 kb wb [.int .i64 k, .int .i64 l.length] 229).drew
    have S3 := Lib.hid (S2.out.alloc (.cells #[.int .i64 k] 65) 2)
    have A3 := Lib.hid (A2.out.stp ((Stp.refl (fun _ => False) _ _).alloc (.cells #[.int .i64 k] 65) 2) id)
    have B3 := Lib.hid (B2.out.stp ((Stp.refl (fun _ => False) _ _).alloc (.cells #[.int .i64 k] 65) 2) id)
    clear S2 A2 B2
    go_wp2_with (go_at_call 30; refine (slots_k k hk _).mono ?_; rintro e w' ⟨rfl, rfl⟩)
    go_loopw [29] (fun i wr => NewRel c ka kb w q wb.heap.size k l s i wr) (fun i _ => (2 ^ k - intOf i).toNat)
    case atStart => exact ⟨_, 0, rfl, by omega, S3.out.mono (fun _ h => h.elim), by rw [List.replicate_zero, List.append_nil]; exact A3.out, hk, hlen, B3.out⟩
    case round =>
      obtain ⟨c', j, rfl, hj, st, hat, hbf⟩ := hrel
      have St := Lib.hid st
      have Hat := Lib.hid hat
      have Hbf := Lib.hid hbf
      clear st hat hbf S3 A3 B3
      by_cases hlt2 : (j : Int) < 2 ^ k
      · go_wp2_with fail
        refine (alloc_ok Hat.out (-1) (by simp; omega)).mono ?_
        rintro e w2 ⟨rfl, c2, s2, a2⟩
        have S2 := Lib.hid (St.out.trans s2)
        have B2 := Lib.hid (Hbf.out.stp s2 hne)
        have A2 := Lib.hid a2
        clear s2 a2
        go_wp2
        go_roundw
        case rel => exact ⟨c2, j + 1, by go_num, by omega, S2.out, by rw [List.replicate_succ', ← List.append_assoc]; exact A2.out, B2.out⟩
        case measure => simp [intOf]; omega
      · have hjn : j = 2 ^ k := by have := two_pow_cast k; omega
        have Hj := Lib.hid hjn
        clear hjn
        go_wp2
        go_ret2
        exact ⟨_, rfl, c', St.out, by rw [← Hj.out]; exact Hat.out, Hbf.out⟩

/-- The last index, from lo on, up to hi, up to which all are shown. -/
def HiAt (l : List Int) (first sh : Nat) (lo hi x : Int) : Prop :=
  lo - 1 ≤ x ∧ (x ≤ hi ∨ x = lo - 1) ∧ (∀ s : Int, lo ≤ s → s ≤ x → shownAt l first sh s = true) ∧ (x < hi → shownAt l first sh (x + 1) = false)

theorem HiAt.uniq {l : List Int} {first sh : Nat} {lo hi x y : Int} (h : HiAt l first sh lo hi x) (k : HiAt l first sh lo hi y) : x = y := by
  rcases Int.lt_trichotomy x y with h1 | h1 | h1
  · have a := h.2.2.2 (by have := k.2.1; have := h.1; omega)
    rw [k.2.2.1 (x + 1) (by have := h.1; omega) (by omega)] at a
    cases a
  · exact h1
  · have a := k.2.2.2 (by have := h.2.1; have := k.1; omega)
    rw [h.2.2.1 (y + 1) (by have := k.1; omega) (by omega)] at a
    cases a

def HighRel (c : Nat → Nat) (ka : Nat) (w : World) (q : Nat) (l : List Int) (first sh : Nat) (lo hi : Int) (i : Value) (wr : World) : Prop :=
  ∃ (c' : Nat → Nat) (j : Nat), i = .int .i64 (lo + j) ∧ (lo + j ≤ hi + 1 ∨ j = 0) ∧ (∀ t : Nat, t < j → shownAt l first sh (lo + t) = true) ∧ Stp (· = ka) c c' w wr ∧ ArenaS c' ka wr q l

set_option maxHeartbeats 1000000 in
theorem avhigh_ok {c : Nat → Nat} {kb ka : Nat} {w : World} {p q sh first : Nat} {l : List Int} (hb : BufAt c kb w p sh first) (ha : ArenaS c ka w q l) (hne : kb ≠ ka) (hl : first + 2 ^ sh ≤ l.length) (lo hi : Int) (h0 : 0 ≤ lo) (h1 : lo ≤ 4611686018427387904) (h2 : hi ≤ 4611686018427387904) (h3 : -9223372036854775808 ≤ hi) :
    Calls Tryz.prog 117 #[.pointer (some ⟨p, 0, none⟩), .pointer (some ⟨q, 0, none⟩), .int .i64 lo, .int .i64 hi] w fun e w' => ∃ x, e = .returned (.tuple #[.int .i64 x, .nilIface]) ∧ HiAt l first sh lo hi x ∧ ∃ c', Stp (· = ka) c c' w w' ∧ ArenaS c' ka w' q l := by
  have Hb := Lib.hid hb
  have Ha := Lib.hid ha
  have Hl := Lib.hid hl
  have t1 : decide ((4611686018427387904 : Int) < hi) = false := by simp; omega
  clear ha hb hl
  go_enter Tryz.func117, Tryz.ntmps117
  go_wp2_with (go_at_call 138; refine (avright_ok _ _ _ _ h0 h1 _).mono ?_; rintro e w' ⟨rfl, rfl⟩)
  go_loopw [11] (fun i wr => HighRel c ka w q l first sh lo hi i wr) (fun i _ => (hi + 1 - intOf i).toNat)
  case atStart => exact ⟨c, 0, by simp, .inr rfl, fun t ht => absurd ht (by omega), Stp.refl _ _ _, Ha.out⟩
  case round =>
    obtain ⟨c', j, rfl, hj, hsh, st, hat⟩ := hrel
    have St := Lib.hid st
    have Hat := Lib.hid hat
    have Hsh := Lib.hid hsh
    clear st hat hsh
    by_cases hlt : lo + (j : Int) ≤ hi
    · have t2 : decide (lo + (j : Int) ≤ hi) = true := by simpa using hlt
      have hj0 : 0 ≤ lo + (j : Int) := by omega
      clear hj
      go_wp2_with fail
      refine (avis_ok (Hb.out.stp St.out hne) Hat.out hne Hl.out (lo + j) hj0 (by omega)).mono ?_
      rintro e w2 ⟨rfl, c2, s2, a2⟩
      have S2 := Lib.hid (St.out.trans s2)
      have A2 := Lib.hid a2
      clear s2 a2
      by_cases hs : shownAt l first sh (lo + j) = true
      · have Hs := Lib.hid hs
        rw [hs]
        clear hs
        go_wp2
        go_roundw
        case rel => exact ⟨c2, j + 1, by rw [Int.natCast_add, ← Int.add_assoc]; go_num, .inl (by omega), fun t ht => (by
          rcases Nat.lt_or_ge t j with h | h
          · exact Hsh.out t h
          · rw [show t = j by omega]; exact Hs.out), S2.out, A2.out⟩
        case measure => simp [intOf]; omega
      · have hs' : shownAt l first sh (lo + j) = false := by simpa using hs
        have Hs := Lib.hid hs'
        rw [hs']
        clear hs hs'
        go_wp2
        go_ret2
        refine ⟨lo + j - 1, rfl, ⟨by omega, by omega, fun s hs1 hs2 => ?_, fun _ => ?_⟩, c2, S2.out, A2.out⟩
        · have := Hsh.out (s - lo).toNat (by omega)
          rw [show lo + ((s - lo).toNat : Int) = s by omega] at this
          exact this
        · rw [show lo + (j : Int) - 1 + 1 = lo + j by omega]; exact Hs.out
    · have t2 : decide (lo + (j : Int) ≤ hi) = false := by simpa using hlt
      have Hj := Lib.hid hj
      clear hj
      go_wp2
      all_goals
        go_ret2
        refine ⟨_, rfl, ⟨?_, ?_, fun s hs1 hs2 => ?_, fun hh => ?_⟩, c', St.out, Hat.out⟩
        · have := Hj.out; omega
        · have := Hj.out; omega
        · have := Hsh.out (s - lo).toNat (by have := Hj.out; omega)
          rw [show lo + ((s - lo).toNat : Int) = s by omega] at this
          exact this
        · exfalso; have := Hj.out; omega

end Go.Proofs.YtiphdedfbafhkaaGreatDoor

namespace Go.Proofs.YtiphdedfbafhkaaGreatDoor
open Go.RowKit

/-- A barrier's numbers: the cursor's cell, the alert's, those ahead, the buffer's size and first cell. -/
structure Bar where
  cur : Nat
  al : Nat
  ids : List Int
  buf : Option (Nat × Nat)

/-- How far a probe came. -/
structure Pr where
  next : Int
  stage : Nat
  ids : List Int
  most : Int
  hi : Int
  pos : Int
  sign : Int
  fin : Bool

def Pr.start (next : Int) : Pr := ⟨next, 0, [], 0, 0, 0, 0, false⟩
def Pr.avail (p : Pr) : Int := if p.fin then max p.pos (p.next - 1) else p.next - 1

def stepP (B : Bar) (la : List Int) (p : Pr) : Pr :=
  if p.fin = true then p
  else if p.stage = 0 then
    (if la.getD B.al 0 = 1 then ⟨p.next, 0, p.ids, p.most, p.hi, p.next - 1, 1, true⟩
     else ⟨p.next, if B.ids = [] then 2 else 1, B.ids, 9223372036854775807, p.hi, p.pos, la.getD B.al 0, false⟩)
  else if p.stage = 1 then
    (if p.ids.tail = [] then ⟨p.next, 1, [], min p.most (valAt la (p.ids.headD 0)), p.hi, min p.most (valAt la (p.ids.headD 0)), p.sign, true⟩
     else ⟨p.next, 1, p.ids.tail, min p.most (valAt la (p.ids.headD 0)), p.hi, p.pos, p.sign, false⟩)
  else if p.stage = 2 then
    (if B.buf = none ∨ la.getD B.cur 0 < p.next then ⟨p.next, 2, p.ids, p.most, p.hi, la.getD B.cur 0, p.sign, true⟩
     else ⟨p.next, 3, p.ids, p.most, la.getD B.cur 0, p.next, p.sign, false⟩)
  else match B.buf with
    | none => p
    | some (sh, first) =>
      if shownAt la first sh p.pos = false then ⟨p.next, 3, p.ids, p.most, p.hi, p.pos - 1, p.sign, true⟩
      else if p.hi ≤ p.pos then ⟨p.next, 3, p.ids, p.most, p.hi, p.hi, p.sign, true⟩
      else ⟨p.next, 3, p.ids, p.most, p.hi, p.pos + 1, p.sign, false⟩

def itP (B : Bar) (la : List Int) : Nat → Pr → Pr
  | 0, p => p
  | n + 1, p => itP B la n (stepP B la p)

/-- So many steps it takes, and ends like that. -/
structure EndsP (B : Bar) (la : List Int) (p : Pr) (n : Nat) (r : Pr) : Prop where
  un : ∀ i, i < n → (itP B la i p).fin = false
  fi : r.fin = true
  eq : itP B la n p = r

section
variable {B : Bar} {la : List Int}
end
end Go.Proofs.YtiphdedfbafhkaaGreatDoor

namespace Go.Proofs.YtiphdedfbafhkaaGreatDoor
open Go.RowKit

/-- Was an index the last that was shown at its slot? -/
def refIs (l : List Int) (m seq : Int) : Bool := match l.reverse.find? (fun x => x % m == seq % m) with
  | some x => x == seq
  | none => false

/-- How a buffer's cells and all that was shown go together. -/
def ShownAs (la shown : List Int) (first sh : Nat) : Prop := ∀ seq : Int, 0 ≤ seq → shownAt la first sh seq = refIs shown (2 ^ sh) seq

/-- The indexes from lo on, so many. -/
def runOf (lo : Int) (n : Nat) : List Int := (List.range n).map fun i => lo + (i : Nat)
end Go.Proofs.YtiphdedfbafhkaaGreatDoor

namespace Go.Proofs.YtiphdedfbafhkaaGreatDoor
open Go.RowKit

theorem scdone_s (c : Nat → Nat) (ao : Option Addr) (n cap : Nat) (m : Int) (w : World) {b : Bool} (hb : ((n : Int) == 0) = b) :
    Calls Tryz.prog 119 #[.agg #[.slice ao n cap, .int .i64 m]] w fun e w' => e = .returned (.bool b) ∧ ∃ c', Stp (fun _ => False) c c' w w' := by
  refine (scdone ao n cap m w).mono ?_
  rintro e w' ⟨rfl, rfl⟩
  exact ⟨by rw [hb], _, (Stp.refl _ c w).alloc _ 0⟩
theorem scleast_s (c : Nat → Nat) (ao : Option Addr) (n cap : Nat) (m : Int) (w : World) :
    Calls Tryz.prog 122 #[.agg #[.slice ao n cap, .int .i64 m]] w fun e w' => e = .returned (.int .i64 m) ∧ ∃ c', Stp (fun _ => False) c c' w w' := by
  refine (scleast ao n cap m w).mono ?_
  rintro e w' ⟨rfl, rfl⟩
  exact ⟨rfl, _, (Stp.refl _ c w).alloc _ 0⟩
end Go.Proofs.YtiphdedfbafhkaaGreatDoor

namespace Go.Proofs.YtiphdedfbafhkaaGreatDoor
open Go.RowKit Go.ChangeShapes Go.WideShapes Go.Deep Go.Joins

section
variable {H : Type} {enc : TypeId × Value → H} {P : Program} {w : World} {base : Nat} {spare : Nat → Bool} {held : Bool}

/-- A slice argument, opened: its elements are such as `dec` says. -/
theorem open_in_v {α : Type} {en : α → List Value} {good : α → Prop} {r : Reach} {b0 : Nat} {t e : TypeId} {m : Nat} {v : Value} {d : DataW H} {ps : List MemPlace}
    (ht : P.underlying t = some (.slice e)) (hC : P.cellsOf e = m) (hm : ∀ x, (en x).length = m) (h0 : 0 < m)
    (dec : ∀ n cs' y, DataW.trod enc P w base spare held n e cs' = some y → ∃ x, cs' = en x ∧ good x) (hval : Value.okWide P w r b0 t v) (h : DataW.Trod enc P w base spare held t v d ps) :
    ∃ (ao : Option Addr) (len cap : Nat) (l : List α), v = .slice ao len cap ∧ In (fun _ => 0) 0 w m ao len cap (l.flatMap en) ∧ (∀ x ∈ l, good x) ∧ l.length = len := by
  obtain ⟨a, len, cap, rfl⟩ := okWide_slice ht hval
  obtain ⟨fuel, hf⟩ := h
  obtain ⟨ao, len', cap', l, hcs, hin, hg, hl⟩ := open_in ht hC hm h0 dec hf
  have e : (Value.slice a len cap).cells.toList = [.slice a len cap] := rfl
  rw [e] at hcs
  simp only [List.cons.injEq, Value.slice.injEq, and_true] at hcs
  obtain ⟨rfl, rfl, rfl⟩ := hcs
  exact ⟨a, len, cap, l, rfl, hin, hg, hl⟩

/-- A struct of one-cell fields, read: its cells, and each field's own reading. -/
theorem dec_fields {e : TypeId} {fs : Array Field} (he : P.underlying e = some (.struct fs)) (hone : oneCellFields P fs = true) (hC : P.cellsOf e = fs.size) {n : Nat} {cs : List Value} {y : DataW H × List MemPlace} (h : DataW.trod enc P w base spare held n e cs = some y) :
    cs.length = fs.size ∧ ∃ n', ∀ (j : Nat) (f : Field), fs[j]? = some f → ∃ (v : Value) (z : DataW H × List MemPlace), cs[j]? = some v ∧ DataW.trod enc P w base spare held n' f.type [v] = some z := by
  obtain ⟨ys, n', _, _, hlen, hyl, hf⟩ := DataW.trod_struct he h
  rw [hC] at hlen
  refine ⟨hlen, n', fun j f hj => ?_⟩
  obtain ⟨ho, hk⟩ := hone_of hone j f hj
  have hjl : j < fs.size := (Array.getElem?_eq_some_iff.1 hj).1
  have hv : cs[j]? = some (cs[j]'(by omega)) := List.getElem?_eq_getElem (by omega)
  have h1 := hf j f hj
  rw [ho, hk] at h1
  have h2 : (cs.drop j).take 1 = [cs[j]'(by omega)] := by
    rw [List.drop_eq_getElem_cons (by omega)]
    rfl
  rw [h2, List.getElem?_eq_getElem (show j < ys.length by omega)] at h1
  exact ⟨_, _, hv, h1⟩
end

section
variable {P : Program}

end
end Go.Proofs.YtiphdedfbafhkaaGreatDoor

namespace Go.Proofs.YtiphdedfbafhkaaGreatDoor
open Go.RowKit

section
variable {P : Program}
theorem step_row {w : World} {ops : Array Oper} {o : Oper} {a : Act} {K : Act → World → Prop} {Q : Exit → Act → World → Prop} {E : Prop} (hg : o.guard = none) (s x : Operand) (t : TypeId)
    (hop : o.op = Op.call { callee := Callee.builtin Builtin.append, args := #[s, x], argTypes := #[t, t] })
    (c : Nat → Nat) (k : Nat) (e : TypeId) (z : Value) (size bytes : Nat) (ht : P.underlying t = some (.slice e)) (hinfo : (P.info? e).map (fun i => (i.zero, i.size, i.bytes)) = some (some z, size, bytes)) (hzs : z.cells.size = size)
    (ao : Option Addr) (n cap : Nat) (xs : List Value) (hs : a.eval s = .slice ao n cap) (hrow : Row c k w e size ao n cap xs)
    (y : Value) (m : Nat) (news : List Value) (hx : a.eval x = y) (hsrc : Src w size y m news) (h1 : ∀ u ∈ news, u.oneCell' = true)
    (h63 : n + m ≤ maxLen) (hbytes : (n + m) * bytes ≤ 140737488355328)
    (hK : ∀ ao' cap' w', Row (paint c w.heap.size k) k w' e size ao' (n + m) cap' (xs ++ news) → Stp (· = k) c (paint c w.heap.size k) w w' → Others w w' ao → K (a.put o.dst (.slice ao' (n + m) cap')) w') :
    if Region.wanted o (yielded ops a.tmps) = true then Oper.wp P o a w K Q else E := by
  have hw : Region.wanted o (yielded ops a.tmps) = true := by simp [Region.wanted, hg]
  rw [if_pos hw]
  obtain ⟨i, hi, hz, hsize, hby⟩ := info_parts hinfo
  subst hsize; subst hby
  obtain ⟨ao', cap', w', hr, h2, h3, h4⟩ := run_append_row (P := P) w c k t o.type e i z ht hi hz hzs ao n cap xs hrow y m news hsrc h1 h63 hbytes
  unfold Oper.wp
  simp [execOp, hop, resolve, invoke, builtin, hs, hx, hr, Result.andThen]
  exact hK _ _ _ h2 h3 h4

theorem Stp.ofOthers {c c' : Nat → Nat} {k : Nat} {w w' : World} (h : Stp (· = k) c c' w w') (ot : Others w w' none) : Stp (fun _ => False) c c' w w' :=
  ⟨h.os, h.tape, h.output, h.size, h.col, fun i hi _ => ot i hi (fun a ha => by cases ha)⟩

end
end Go.Proofs.YtiphdedfbafhkaaGreatDoor

namespace Go.Proofs.YtiphdedfbafhkaaGreatDoor
open Go.RowKit

end Go.Proofs.YtiphdedfbafhkaaGreatDoor

namespace Go.Proofs.YtiphdedfbafhkaaGreatDoor
open Go.RowKit

def ShowRelN (c : Nat → Nat) (ka : Nat) (w : World) (q : Nat) (l : List Int) (s : Int) (first sh : Nat) (lo hi : Int) (i : Value) (wr : World) : Prop :=
  ∃ (c' : Nat → Nat) (j : Nat), i = .int .i64 (lo + j) ∧ lo + j ≤ hi + 1 ∧ Stp (· = ka) c c' w wr ∧ ArenaAt c' ka wr q (showAll l first sh lo j) (s + j)

theorem ErrAt.iface' {c : Nat → Nat} {w : World} {v : Value} {n : Int} (h : ErrAt c w v n) : ∃ tt vv, v = .iface tt vv := by
  rcases h with rfl | ⟨_, _, _, rfl, _⟩
  · exact ⟨_, _, rfl⟩
  · exact ⟨_, _, rfl⟩

end Go.Proofs.YtiphdedfbafhkaaGreatDoor

namespace Go.Proofs.YtiphdedfbafhkaaGreatDoor
open Go.RowKit

/-- A sequencer's numbers: the size, the cells of the cursor and of what was seen last, the buffer's first cell, those who hold back. -/
structure Sq where
  sh : Nat
  cur : Nat
  cac : Nat
  first : Nat
  ids : List Int

/-- How far a claim came. -/
structure Tr where
  n : Int
  stage : Nat
  claimed : Int
  hi : Int
  ids : List Int
  most : Int

def Tr.start (n : Int) : Tr := ⟨n, 0, 0, 0, [], 0⟩
def judgeT (S : Sq) (t : Tr) : Tr := ⟨t.n, if t.most < t.hi - 2 ^ S.sh then 6 else 3, t.claimed, t.hi, t.ids, t.most⟩

def stepT (S : Sq) (la : List Int) (t : Tr) : List Int × Tr × Int :=
  if 5 ≤ t.stage then (la, t, 0)
  else if t.stage = 0 then
    (if nextErr (la.getD S.cur 0) t.n ≠ 0 then (la, t, nextErr (la.getD S.cur 0) t.n)
     else (la, ⟨t.n, 1, la.getD S.cur 0, la.getD S.cur 0 + t.n, t.ids, t.most⟩, 0))
  else if t.stage = 1 then
    (if t.hi - 2 ^ S.sh ≤ la.getD S.cac 0 ∧ la.getD S.cac 0 ≤ t.claimed then (la, ⟨t.n, 4, t.claimed, t.hi, t.ids, t.most⟩, 0)
     else if S.ids = [] then (la, judgeT S ⟨t.n, 2, t.claimed, t.hi, [], t.claimed⟩, 0)
     else (la, ⟨t.n, 2, t.claimed, t.hi, S.ids, t.claimed⟩, 0))
  else if t.stage = 2 then
    (if t.ids.tail = [] then (la, judgeT S ⟨t.n, 2, t.claimed, t.hi, [], min t.most (valAt la (t.ids.headD 0))⟩, 0)
     else (la, ⟨t.n, 2, t.claimed, t.hi, t.ids.tail, min t.most (valAt la (t.ids.headD 0))⟩, 0))
  else if t.stage = 3 then (la.set S.cac t.most, ⟨t.n, 4, t.claimed, t.hi, t.ids, t.most⟩, 0)
  else if la.getD S.cur 0 = t.claimed then (la.set S.cur t.hi, ⟨t.n, 5, t.claimed, t.hi, t.ids, t.most⟩, 0)
  else (la, ⟨t.n, 0, t.claimed, t.hi, t.ids, t.most⟩, 0)

/-- A sequencer: its struct, its buffer, its group. -/
structure SeqIs (c : Nat → Nat) (k : Nat) (w : World) (p q bp gp : Nat) (S : Sq) : Prop where
  st : Blk c k w p [.pointer (some ⟨q, 0, none⟩), .int .i64 S.sh, .int .i64 S.cur, .int .i64 S.cac, .pointer (some ⟨bp, 0, none⟩), .pointer (some ⟨gp, 0, none⟩)] 187
  bf : BufAt c (k + 1) w bp S.sh S.first
  gr : GroupAt c (k + 2) w gp S.ids

section
variable {c : Nat → Nat} {k : Nat} {w : World} {p q bp gp : Nat} {S : Sq}
theorem SeqIs.stp {J : Nat → Prop} {c' : Nat → Nat} {w' : World} (h : SeqIs c k w p q bp gp S) (s : Stp J c c' w w') (h0 : ¬ J k) (h1 : ¬ J (k + 1)) (h2 : ¬ J (k + 2)) : SeqIs c' k w' p q bp gp S :=
  ⟨h.st.stp s h0, h.bf.stp s h1, h.gr.stp s h2⟩
theorem SeqIs.cs (h : SeqIs c k w p q bp gp S) : w.cell? ⟨p, 0, none⟩ = some (.pointer (some ⟨q, 0, none⟩)) ∧ w.cell? ⟨p, 1, none⟩ = some (.int .i64 S.sh) ∧ w.cell? ⟨p, 2, none⟩ = some (.int .i64 S.cur) ∧ w.cell? ⟨p, 3, none⟩ = some (.int .i64 S.cac) ∧ w.cell? ⟨p, 4, none⟩ = some (.pointer (some ⟨bp, 0, none⟩)) ∧ w.cell? ⟨p, 5, none⟩ = some (.pointer (some ⟨gp, 0, none⟩)) ∧ p < w.heap.size :=
  ⟨by simpa using h.st.cell 0, by simpa using h.st.cell 1, by simpa using h.st.cell 2, by simpa using h.st.cell 3, by simpa using h.st.cell 4, by simpa using h.st.cell 5, h.st.lt⟩
end

section
variable (sv : Option Addr) (n stage claimed hi : Int) (ao : Option Addr) (m cap : Nat) (most : Int)
set_option maxRecDepth 100000 in
theorem tdone_any (c : Nat → Nat) (s : Addr) (w : World) {b : Bool} (hb : decide (5 ≤ stage) = b) :
    Calls Tryz.prog 81 #[.agg #[.pointer (some s), .int .i64 n, .int .i64 stage, .int .i64 claimed, .int .i64 hi, .slice ao m cap, .int .i64 most]] w fun e w' => e = .returned (.bool b) ∧ ∃ c', Stp (fun _ => False) c c' w w' := by
  have S := Lib.hid ((Stp.refl (fun _ => False) c w).alloc (.cells #[.pointer (some s), .int .i64 n, .int .i64 stage, .int .i64 claimed, .int .i64 hi, .slice ao m cap, .int .i64 most] 36) 0)
  go_enter Tryz.func81, Tryz.ntmps81
  go_wp2
  go_ret
  exact ⟨by first | rfl | simp, _, S.out⟩

set_option maxRecDepth 100000 in
theorem tfull_any (c : Nat → Nat) (w : World) {b : Bool} (hb : (stage == 6) = b) :
    Calls Tryz.prog 86 #[.agg #[.pointer sv, .int .i64 n, .int .i64 stage, .int .i64 claimed, .int .i64 hi, .slice ao m cap, .int .i64 most]] w fun e w' => e = .returned (.bool b) ∧ ∃ c', Stp (fun _ => False) c c' w w' := by
  have S := Lib.hid ((Stp.refl (fun _ => False) c w).alloc (.cells #[.pointer sv, .int .i64 n, .int .i64 stage, .int .i64 claimed, .int .i64 hi, .slice ao m cap, .int .i64 most] 36) 0)
  go_enter Tryz.func86, Tryz.ntmps86
  go_wp2
  go_ret
  exact ⟨by first | rfl | simp, _, S.out⟩

set_option maxRecDepth 100000 in
theorem tlast_any (c : Nat → Nat) (w : World) :
    Calls Tryz.prog 147 #[.agg #[.pointer sv, .int .i64 n, .int .i64 stage, .int .i64 claimed, .int .i64 hi, .slice ao m cap, .int .i64 most]] w fun e w' => e = .returned (.int .i64 (if stage = 5 then hi else -1)) ∧ ∃ c', Stp (fun _ => False) c c' w w' := by
  have S := Lib.hid ((Stp.refl (fun _ => False) c w).alloc (.cells #[.pointer sv, .int .i64 n, .int .i64 stage, .int .i64 claimed, .int .i64 hi, .slice ao m cap, .int .i64 most] 36) 0)
  by_cases h : stage = 5
  · have t : (stage != 5) = false := by simpa using h
    rw [if_pos h]
    clear h
    go_enter Tryz.func147, Tryz.ntmps147
    go_wp2
    go_ret
    exact ⟨by first | rfl | simp, _, S.out⟩
  · have t : (stage != 5) = true := by simpa using h
    rw [if_neg h]
    clear h
    go_enter Tryz.func147, Tryz.ntmps147
    go_wp2
    go_ret
    exact ⟨by first | rfl | simp, _, S.out⟩
end
end Go.Proofs.YtiphdedfbafhkaaGreatDoor
