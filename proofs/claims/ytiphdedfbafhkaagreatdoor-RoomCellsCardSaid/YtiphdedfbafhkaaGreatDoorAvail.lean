/- Contracts of the arena where its count of steps is of no account, and of the functions of package avail. No condition beyond each contract's own. -/
import Derived.Test.YtiphdedfbafhkaaGreatDoorSlots2
import Derived.Test.YtiphdedfbafhkaaGreatDoorCells3
namespace Go.Proofs.YtiphdedfbafhkaaGreatDoor
open Go.RowKit

/-- An arena, whatever its count. -/
def ArenaS (c : Nat → Nat) (k : Nat) (w : World) (p : Nat) (l : List Int) : Prop := ∃ s, ArenaAt c k w p l s

theorem ArenaS.stp {J : Nat → Prop} {c c' : Nat → Nat} {k : Nat} {w w' : World} {p : Nat} {l : List Int} (h : ArenaS c k w p l) (st : Stp J c c' w w') (hk : ¬ J k) : ArenaS c' k w' p l := by
  obtain ⟨s, h⟩ := h
  exact ⟨s, h.stp st hk⟩

theorem at_s {c : Nat → Nat} {k : Nat} {w : World} {p : Nat} {l : List Int} {s : Int} (h : ArenaAt c k w p l s) (op : ByteArray) (id : Int) (h0 : 0 ≤ id) (h1 : id < l.length) :
    Calls Tryz.prog 80 #[.pointer (some ⟨p, 0, none⟩), .string op, .int .i64 id] w fun e w' => e = .returned .nilIface ∧ w.setCell ⟨p, 1, none⟩ (.int .i64 (wrap64 (s + 1))) = w' := by
  obtain ⟨ao, cap, hb, hr⟩ := h
  have c0 := hb.cell 0
  have c1 := hb.cell 1
  have f1 := hb.free 1
  simp at c0 c1
  clear hb hr
  have h0' : decide (id < 0) = false := by simp; omega
  go_enter Tryz.func80, Tryz.ntmps80
  go_wp2
  go_ret
  exact ⟨rfl, rfl⟩

theorem load_s {c : Nat → Nat} {k : Nat} {w : World} {p : Nat} {l : List Int} (h : ArenaS c k w p l) (j : Nat) (hj : j < l.length) :
    Calls Tryz.prog 37 #[.pointer (some ⟨p, 0, none⟩), .int .i64 j] w fun e w' => e = .returned (.tuple #[.int .i64 (l.getD j 0), .nilIface]) ∧ ∃ c', Stp (· = k) c c' w w' ∧ ArenaS c' k w' p l := by
  obtain ⟨s, h⟩ := h
  have Hat := Lib.hid h
  obtain ⟨g, off, cap, hb, hr, hc, hf, hne⟩ := h.open_cell hj
  have Hb := Lib.hid hb
  have c0 := hb.cell 0
  simp at c0
  have hlt := hb.lt
  have hc1 : (w.setCell ⟨p, 1, none⟩ (.int .i64 (wrap64 (s + 1)))).cell? ⟨g, off + j, none⟩ = some (.int .i64 (l.getD j 0)) := by
    rw [cell_other (by exact Ne.symm hne)]; exact hc
  clear hb hr h hc hf
  go_enter Tryz.func37, Tryz.ntmps37
  go_wp2_with (go_at_call 80; refine (at_s Hat.out _ _ (by omega) (by omega)).mono ?_; rintro e w' ⟨rfl, rfl⟩)
  go_ret2
  exact ⟨by simp [hj], _, (Stp.refl _ c w).setCell _ Hb.out.1, _, Hat.out.step _⟩

theorem store_s {c : Nat → Nat} {k : Nat} {w : World} {p : Nat} {l : List Int} (h : ArenaS c k w p l) (j : Nat) (v : Int) (hj : j < l.length) :
    Calls Tryz.prog 106 #[.pointer (some ⟨p, 0, none⟩), .int .i64 j, .int .i64 v] w fun e w' => e = .returned .nilIface ∧ ∃ c', Stp (· = k) c c' w w' ∧ ArenaS c' k w' p (l.set j v) := by
  obtain ⟨s, h⟩ := h
  have Hat := Lib.hid h
  obtain ⟨g, off, cap, hb, hr, hc, hf, hne⟩ := (h.step (wrap64 (s + 1))).open_cell hj
  have Hb := Lib.hid hb
  have Hr := Lib.hid hr
  have c0 := hb.cell 0
  simp at c0
  clear hb hr h
  go_enter Tryz.func106, Tryz.ntmps106
  go_wp2_with (go_at_call 80; refine (at_s Hat.out _ _ (by omega) (by omega)).mono ?_; rintro e w' ⟨rfl, rfl⟩)
  go_ret
  obtain ⟨_, _, hb0, _⟩ := Hat.out
  exact ⟨rfl, _, ((Stp.refl _ c w).setCell _ hb0.1).setCell _ Hr.out.2.2.2.2.1, _, ArenaAt.put Hb.out Hr.out j hj v⟩

/-- A buffer: its size, and its first cell. -/
def BufAt (c : Nat → Nat) (k : Nat) (w : World) (p sh first : Nat) : Prop := sh < 21 ∧ (first : Int) ≤ 2097152 ∧ Blk c k w p [.int .i64 sh, .int .i64 first] 229

theorem BufAt.stp {J : Nat → Prop} {c c' : Nat → Nat} {k : Nat} {w w' : World} {p sh first : Nat} (h : BufAt c k w p sh first) (st : Stp J c c' w w') (hk : ¬ J k) : BufAt c' k w' p sh first := ⟨h.1, h.2.1, h.2.2.stp st hk⟩

theorem avcell_nil (seq : Int) (w : World) :
    Calls Tryz.prog 139 #[.pointer none, .int .i64 seq] w fun e w' => e = .returned (.int .i64 (-1)) ∧ w = w' := by
  go_enter Tryz.func139, Tryz.ntmps139
  go_wp2
  go_ret
  exact ⟨rfl, rfl⟩

theorem avround_nil (seq : Int) (w : World) :
    Calls Tryz.prog 140 #[.pointer none, .int .i64 seq] w fun e w' => e = .returned (.int .i64 (-1)) ∧ w = w' := by
  go_enter Tryz.func140, Tryz.ntmps140
  go_wp2
  go_ret
  exact ⟨rfl, rfl⟩

theorem avround_any {c : Nat → Nat} {k : Nat} {w : World} {p sh first : Nat} (h : BufAt c k w p sh first) (seq : Int) :
    Calls Tryz.prog 140 #[.pointer (some ⟨p, 0, none⟩), .int .i64 seq] w fun e w' => e = .returned (.int .i64 (seq / 2 ^ sh)) ∧ Below w.heap.size w w' := by
  obtain ⟨hsh, _, hb⟩ := h
  have c0 := hb.cell 0
  simp at c0
  clear hb
  go_enter Tryz.func140, Tryz.ntmps140
  go_wp2_with (go_at_call 151; refine (round_k sh hsh seq _).mono ?_; rintro e w' ⟨rfl, rfl⟩)
  go_ret
  exact ⟨rfl, (Below.refl _ _).alloc (Nat.le_refl _) _⟩

theorem avcell_any {c : Nat → Nat} {k : Nat} {w : World} {p sh first : Nat} (h : BufAt c k w p sh first) (seq : Int) :
    Calls Tryz.prog 139 #[.pointer (some ⟨p, 0, none⟩), .int .i64 seq] w fun e w' => e = .returned (.int .i64 ((first + slotOf sh seq : Nat) : Int)) ∧ Below w.heap.size w w' := by
  obtain ⟨hsh, hf, hb⟩ := h
  obtain ⟨hs1, hs2⟩ := slotOf_lt sh seq hsh
  have hbd := two_pow_bd sh hsh
  have hj1 : ((slotOf sh seq : Nat) : Int) ≤ 1048576 := by have := two_pow_cast sh; omega
  generalize slotOf sh seq = j at *
  have Hj := Lib.hid hs2
  have c0 := hb.cell 0
  have c1 := hb.cell 1
  simp at c0 c1
  have hlt := hb.lt
  have hw : IntKind.i64.wrap ((first : Int) + (j : Int)) = (first : Int) + (j : Int) := IntWalk.i64_in _ (by omega)
  clear hb hs1 hs2 hbd
  go_enter Tryz.func139, Tryz.ntmps139
  go_wp2
  go_region_with ((go_at_call 88; refine (withB (wb := w) (index_j sh hsh seq j Hj.out _) ?_).mono ?_; (exact (Below.refl _ _).drew); rintro e w2 ⟨rfl, hB2⟩; have k0 := (hB2.cell (World.block_lt_of_cell? _ _ c0)).trans c0; have k1 := (hB2.cell (World.block_lt_of_cell? _ _ c1)).trans c1))
  all_goals
    go_wp2
    go_ret
    exact ⟨by rw [Int.natCast_add]; rfl, hB2⟩

theorem avright_nila (b : Option Nat) (op : ByteArray) (seq : Int) (w : World) :
    Calls Tryz.prog 138 #[.pointer (b.map fun p => ⟨p, 0, none⟩), .pointer none, .string op, .int .i64 seq] w fun e w' => e = .returned (.iface 98 (.int .i64 2)) ∧ w = w' := by
  cases b <;>
  · go_enter Tryz.func138, Tryz.ntmps138
    go_wp2
    go_ret
    exact ⟨rfl, rfl⟩

theorem avright_nilb (q : Nat) (op : ByteArray) (seq : Int) (w : World) :
    Calls Tryz.prog 138 #[.pointer none, .pointer (some ⟨q, 0, none⟩), .string op, .int .i64 seq] w fun e w' => e = .returned (.iface 98 (.int .i64 2)) ∧ w = w' := by
  go_enter Tryz.func138, Tryz.ntmps138
  go_wp2
  go_ret
  exact ⟨rfl, rfl⟩

theorem avright_ok (p q : Nat) (op : ByteArray) (seq : Int) (h0 : 0 ≤ seq) (h1 : seq ≤ 4611686018427387904) (w : World) :
    Calls Tryz.prog 138 #[.pointer (some ⟨p, 0, none⟩), .pointer (some ⟨q, 0, none⟩), .string op, .int .i64 seq] w fun e w' => e = .returned .nilIface ∧ w = w' := by
  have t0 : decide (seq < 0) = false := by simp; omega
  have t1 : decide ((4611686018427387904 : Int) < seq) = false := by simp; omega
  go_enter Tryz.func138, Tryz.ntmps138
  go_wp2
  go_ret
  exact ⟨rfl, rfl⟩

theorem avright_bad (c : Nat → Nat) (p q : Nat) (op : ByteArray) (seq : Int) (h : seq < 0 ∨ 4611686018427387904 < seq) (w : World) :
    Calls Tryz.prog 138 #[.pointer (some ⟨p, 0, none⟩), .pointer (some ⟨q, 0, none⟩), .string op, .int .i64 seq] w fun e w' => ∃ t v, e = .returned (.iface t v) ∧ ∃ c', Stp (fun _ => False) c c' w w' ∧ ErrAt c' w' (.iface t v) 5 := by
  by_cases h0 : seq < 0
  · have t0 : decide (seq < 0) = true := by simpa using h0
    clear h h0
    go_enter Tryz.func138, Tryz.ntmps138
    go_wp2_with (go_at_call 50; refine (wrap_some _ _ _ _ _).mono ?_; rintro e w' ⟨rfl, rfl⟩)
    go_ret
    exact ⟨_, _, rfl, _, (Stp.refl _ c w).alloc _ 1, ErrAt.new _ _ _ _ _⟩
  · have t0 : decide (seq < 0) = false := by simpa using h0
    have t1 : decide ((4611686018427387904 : Int) < seq) = true := by simp; omega
    clear h h0
    go_enter Tryz.func138, Tryz.ntmps138
    go_wp2_with (go_at_call 50; refine (wrap_some _ _ _ _ _).mono ?_; rintro e w' ⟨rfl, rfl⟩)
    go_ret
    exact ⟨_, _, rfl, _, (Stp.refl _ c w).alloc _ 1, ErrAt.new _ _ _ _ _⟩

/-- Is an index shown? -/
def shownAt (l : List Int) (first sh : Nat) (seq : Int) : Bool := l.getD (first + slotOf sh seq) 0 == seq / 2 ^ sh

theorem avis_ok {c : Nat → Nat} {kb ka : Nat} {w : World} {p q sh first : Nat} {l : List Int} (hb : BufAt c kb w p sh first) (ha : ArenaS c ka w q l) (hne : kb ≠ ka) (hl : first + 2 ^ sh ≤ l.length) (seq : Int) (h0 : 0 ≤ seq) (h1 : seq ≤ 4611686018427387904) :
    Calls Tryz.prog 143 #[.pointer (some ⟨p, 0, none⟩), .pointer (some ⟨q, 0, none⟩), .int .i64 seq] w fun e w' => e = .returned (.tuple #[.bool (shownAt l first sh seq), .nilIface]) ∧ ∃ c', Stp (· = ka) c c' w w' ∧ ArenaS c' ka w' q l := by
  have Hb := Lib.hid hb
  have Ha := Lib.hid ha
  have hj := (slotOf_lt sh seq hb.1).1
  have Hj := Lib.hid (show first + slotOf sh seq < l.length by omega)
  clear hj hb ha hl
  go_enter Tryz.func143, Tryz.ntmps143
  go_wp2_with (go_at_call 138; refine (avright_ok _ _ _ _ h0 h1 _).mono ?_; rintro e w' ⟨rfl, rfl⟩)
  refine (avcell_any Hb.out seq).mono ?_
  rintro e w1 ⟨rfl, b1⟩
  have st1 := Stp.ofBelow (c := c) b1 2
  have A1 := Lib.hid (Ha.out.stp st1 id)
  have B1 := Lib.hid (Hb.out.stp st1 id)
  have S1 := Lib.hid st1
  clear b1 st1
  go_wp2_with fail
  refine (load_s A1.out _ Hj.out).mono ?_
  rintro e w2 ⟨rfl, c2, s2, a2⟩
  have B2 := Lib.hid (B1.out.stp s2 hne)
  have S2 := Lib.hid ((S1.out.mono (fun _ h => h.elim)).trans s2)
  have A2 := Lib.hid a2
  have Hsh := Lib.hid (show shownAt l first sh seq = (l.getD (first + slotOf sh seq) 0 == seq / 2 ^ sh) from rfl)
  generalize l.getD (first + slotOf sh seq) 0 = v at *
  clear s2 a2
  go_wp2_with fail
  refine (avround_any B2.out seq).mono ?_
  rintro e w3 ⟨rfl, b3⟩
  have st3 := Stp.ofBelow (c := c2) b3 2
  have S3 := Lib.hid (S2.out.trans (st3.mono (fun _ h => h.elim)))
  have A3 := Lib.hid (A2.out.stp st3 id)
  clear st3 b3
  go_wp2
  go_ret2
  exact ⟨by rw [Hsh.out]; rfl, _, S3.out, A3.out⟩

theorem avis_bad {c : Nat → Nat} {p q : Nat} {w : World} (seq : Int) (h : seq < 0 ∨ 4611686018427387904 < seq) :
    Calls Tryz.prog 143 #[.pointer (some ⟨p, 0, none⟩), .pointer (some ⟨q, 0, none⟩), .int .i64 seq] w fun e w' => ∃ ev, e = .returned (.tuple #[.bool false, ev]) ∧ ∃ c', Stp (fun _ => False) c c' w w' ∧ ErrAt c' w' ev 5 := by
  have H := Lib.hid h
  clear h
  go_enter Tryz.func143, Tryz.ntmps143
  go_wp2_with (go_at_call 138; refine (avright_bad c _ _ _ _ H.out _).mono ?_; rintro e w' ⟨t, v, rfl, c1, s1, e1⟩)
  go_ret2
  exact ⟨_, rfl, c1, s1, e1⟩

theorem avis_nil (b : Option Nat) (seq : Int) (w : World) :
    Calls Tryz.prog 143 #[.pointer (b.map fun p => ⟨p, 0, none⟩), .pointer none, .int .i64 seq] w fun e w' => e = .returned (.tuple #[.bool false, .iface 98 (.int .i64 2)]) ∧ w = w' := by
  go_enter Tryz.func143, Tryz.ntmps143
  go_wp2_with (go_at_call 138; refine (avright_nila b _ _ _).mono ?_; rintro e w' ⟨rfl, rfl⟩)
  go_ret2
  exact ⟨rfl, rfl⟩

theorem avis_nilb (q : Nat) (seq : Int) (w : World) :
    Calls Tryz.prog 143 #[.pointer none, .pointer (some ⟨q, 0, none⟩), .int .i64 seq] w fun e w' => e = .returned (.tuple #[.bool false, .iface 98 (.int .i64 2)]) ∧ w = w' := by
  go_enter Tryz.func143, Tryz.ntmps143
  go_wp2_with (go_at_call 138; refine (avright_nilb _ _ _ _).mono ?_; rintro e w' ⟨rfl, rfl⟩)
  go_ret2
  exact ⟨rfl, rfl⟩

theorem avhighest_nilb (q : Nat) (lo hi : Int) (w : World) :
    Calls Tryz.prog 117 #[.pointer none, .pointer (some ⟨q, 0, none⟩), .int .i64 lo, .int .i64 hi] w fun e w' => e = .returned (.tuple #[.int .i64 0, .iface 98 (.int .i64 2)]) ∧ w = w' := by
  go_enter Tryz.func117, Tryz.ntmps117
  go_wp2_with (go_at_call 138; refine (avright_nilb _ _ _ _).mono ?_; rintro e w' ⟨rfl, rfl⟩)
  go_ret2
  exact ⟨rfl, rfl⟩

theorem avshow_nilb (q : Nat) (lo hi : Int) (w : World) :
    Calls Tryz.prog 107 #[.pointer none, .pointer (some ⟨q, 0, none⟩), .int .i64 lo, .int .i64 hi] w fun e w' => e = .returned (.iface 98 (.int .i64 2)) ∧ w = w' := by
  go_enter Tryz.func107, Tryz.ntmps107
  go_wp2_with (go_at_call 138; refine (avright_nilb _ _ _ _).mono ?_; rintro e w' ⟨rfl, rfl⟩)
  go_ret
  exact ⟨rfl, rfl⟩

theorem avnew_nil (s : Int) (w : World) :
    Calls Tryz.prog 104 #[.pointer none, .agg #[.int .i64 s]] w fun e w' => e = .returned (.tuple #[.pointer none, .iface 98 (.int .i64 2)]) ∧ w.alloc (.cells #[.int .i64 s] 65) = w' := by
  go_enter Tryz.func104, Tryz.ntmps104
  go_wp2
  go_ret2
  exact ⟨rfl, rfl⟩

def showAll (l : List Int) (first sh : Nat) (lo : Int) (n : Nat) : List Int := (List.range n).foldl (fun l i => l.set (first + slotOf sh (lo + (i : Nat))) ((lo + (i : Nat)) / 2 ^ sh)) l
theorem showAll_succ (l : List Int) (first sh : Nat) (lo : Int) (n : Nat) : showAll l first sh lo (n + 1) = (showAll l first sh lo n).set (first + slotOf sh (lo + (n : Nat))) ((lo + (n : Nat)) / 2 ^ sh) := by
  simp [showAll, List.range_succ]
theorem showAll_len (l : List Int) (first sh : Nat) (lo : Int) (n : Nat) : (showAll l first sh lo n).length = l.length := by
  induction n with
  | zero => rfl
  | succ n ih => rw [showAll_succ, List.length_set, ih]

def ShowRel (c : Nat → Nat) (ka : Nat) (w : World) (q : Nat) (l : List Int) (first sh : Nat) (lo hi : Int) (i : Value) (wr : World) : Prop :=
  ∃ (c' : Nat → Nat) (j : Nat), i = .int .i64 (lo + j) ∧ lo + j ≤ hi + 1 ∧ Stp (· = ka) c c' w wr ∧ ArenaS c' ka wr q (showAll l first sh lo j)

/-- Show of indexes that may be. -/
theorem avshow_ok {c : Nat → Nat} {kb ka : Nat} {w : World} {p q sh first : Nat} {l : List Int} (hb : BufAt c kb w p sh first) (ha : ArenaS c ka w q l) (hne : kb ≠ ka) (hl : first + 2 ^ sh ≤ l.length) (lo hi : Int) (h0 : 0 ≤ lo) (h1 : lo ≤ hi) (h2 : hi ≤ 4611686018427387904) (h3 : hi - lo < 2 ^ sh) :
    Calls Tryz.prog 107 #[.pointer (some ⟨p, 0, none⟩), .pointer (some ⟨q, 0, none⟩), .int .i64 lo, .int .i64 hi] w fun e w' => e = .returned .nilIface ∧ ∃ c', Stp (· = ka) c c' w w' ∧
      ArenaS c' ka w' q (showAll l first sh lo (hi - lo + 1).toNat) := by
  have Hl := Lib.hid hl
  have Hb := Lib.hid hb
  have Ha := Lib.hid ha
  obtain ⟨hsh, _, hbb⟩ := hb
  have c0 := hbb.cell 0
  simp at c0
  have t0 : decide (hi < lo) = false := by simp; omega
  have t1 : decide ((4611686018427387904 : Int) < hi) = false := by simp; omega
  have t2 : decide ((2 : Int) ^ sh ≤ hi - lo) = false := by simp; omega
  clear hbb ha
  go_enter Tryz.func107, Tryz.ntmps107
  go_wp2_with (first
    | (go_at_call 138; refine (avright_ok _ _ _ _ h0 (by omega) _).mono ?_; rintro e w' ⟨rfl, rfl⟩)
    | (go_at_call 30; refine (slots_k sh hsh _).mono ?_; rintro e w' ⟨rfl, rfl⟩))
  go_loopw [10] (fun i wr => ShowRel c ka w q l first sh lo hi i wr) (fun i _ => (hi + 1 - intOf i).toNat)
  case atStart => exact ⟨_, 0, by simp, by omega, (Stp.refl _ c w).alloc _ 2, by simpa [showAll] using Ha.out.stp ((Stp.refl (fun _ => False) c w).alloc (.cells #[.int .i64 sh] 65) 2) id⟩
  case round =>
    obtain ⟨c', j, rfl, hj, st, hat⟩ := hrel
    have St := Lib.hid st
    have Hat := Lib.hid hat
    clear st hat
    by_cases hlt : lo + (j : Int) ≤ hi
    · have hjl : first + slotOf sh (lo + j) < (showAll l first sh lo j).length := by
        rw [showAll_len]
        have := (slotOf_lt sh (lo + j) hsh).1
        have := Hl.out
        omega
      have Hjl := Lib.hid hjl
      clear hjl
      go_wp2_with fail
      refine (avcell_any (Hb.out.stp St.out hne) (lo + j)).mono ?_
      rintro e w2 ⟨rfl, b2⟩
      have st2 := Stp.ofBelow (c := c') b2 2
      have B2 := Lib.hid ((Hb.out.stp St.out hne).stp st2 id)
      have A2 := Lib.hid (Hat.out.stp st2 id)
      have S2 := Lib.hid (St.out.trans (st2.mono (fun _ h => h.elim)))
      clear b2 st2
      go_wp2_with fail
      refine (avround_any B2.out (lo + j)).mono ?_
      rintro e w3 ⟨rfl, b3⟩
      have st3 := Stp.ofBelow (c := paint c' wr.heap.size 2) b3 2
      have A3 := Lib.hid (A2.out.stp st3 id)
      have S3 := Lib.hid (S2.out.trans (st3.mono (fun _ h => h.elim)))
      clear b3 st3 S2 A2 B2
      go_wp2_with fail
      refine (store_s A3.out _ _ Hjl.out).mono ?_
      rintro e w4 ⟨rfl, c4, s4, a4⟩
      have A4 := Lib.hid a4
      have S4 := Lib.hid (S3.out.trans s4)
      clear s4 a4 S3 A3
      go_wp2
      go_roundw
      case rel => exact ⟨c4, j + 1, by rw [Int.natCast_add, ← Int.add_assoc]; go_num, by omega, S4.out, by rw [showAll_succ]; exact A4.out⟩
      case measure => simp [intOf]; omega
    · have hjn : j = (hi - lo + 1).toNat := by omega
      have Hj := Lib.hid hjn
      clear hjn
      go_wp2
      go_ret
      exact ⟨rfl, c', St.out, by rw [← Hj.out]; exact Hat.out⟩
end Go.Proofs.YtiphdedfbafhkaaGreatDoor
