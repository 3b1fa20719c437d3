/- Contracts of the gate's Group: Add, Cells, Len, Least, Who, Scan; of Scan's functions; and of the document's Least. No condition beyond each contract's own. -/
import Derived.Test.YtoifknfmamcimaaDoorSlices
import Derived.Test.YtoifknfmamcimaaDoorCells3
namespace Go.Proofs.YtoifknfmamcimaaDoor
open Go.RowKit

def GroupAt (c : Nat → Nat) (k : Nat) (w : World) (p : Nat) (l : List Int) : Prop :=
  ∃ ao cap, Blk c k w p [.slice ao l.length cap] 128 ∧ Row c k w 3 1 ao l.length cap (l.map (Value.int .i64))

theorem GroupAt.stp {J : Nat → Prop} {c c' : Nat → Nat} {k : Nat} {w w' : World} {p : Nat} {l : List Int} (h : GroupAt c k w p l) (st : Stp J c c' w w') (hk : ¬ J k) : GroupAt c' k w' p l := by
  obtain ⟨ao, cap, hb, hr⟩ := h
  exact ⟨ao, cap, hb.stp st hk, hr.stp st hk⟩

/-- What is wrong with a cell that is put in; 0: nothing. -/
def gaddErr (l : List Int) (id : Int) : Int := if id < 0 ∨ 2097152 ≤ id then 1 else if id ∈ l then 4 else if (32 : Int) ≤ (l.length : Int) then 8 else 0

theorem gadd_bad {c : Nat → Nat} {k : Nat} {w : World} {p : Nat} {l : List Int} (h : GroupAt c k w p l) (id : Int) (he : gaddErr l id ≠ 0) :
    Calls Tryd.prog 47 #[.pointer (some ⟨p, 0, none⟩), .int .i64 id] w fun e w' => ∃ t v, e = .returned (.iface t v) ∧ ∃ c', Stp (fun _ => False) c c' w w' ∧ ErrAt c' w' (.iface t v) (gaddErr l id) := by
  obtain ⟨ao, cap, hb, hr⟩ := h
  have c0 := hb.cell 0
  simp at c0
  have Hr := Lib.hid hr
  clear hb hr
  by_cases h0 : id < 0
  · have e1 : gaddErr l id = 1 := by simp [gaddErr, h0]
    rw [e1]
    have t0 : decide (id < 0) = true := by simpa using h0
    clear e1 he h0
    go_enter Tryd.func47, Tryd.ntmps47
    go_wp2_with (go_at_call 65; refine (wrap_some _ _ _ _ _).mono ?_; rintro e w' ⟨rfl, rfl⟩)
    go_ret
    exact ⟨_, _, rfl, _, (Stp.refl _ c w).alloc _ 1, ErrAt.new _ _ _ _ _⟩
  · have t0 : decide (id < 0) = false := by simpa using h0
    by_cases h1 : 2097152 ≤ id
    · have e1 : gaddErr l id = 1 := by simp [gaddErr, h1]
      rw [e1]
      have t1 : decide ((2097152 : Int) ≤ id) = true := by simpa using h1
      clear e1 he h0
      go_enter Tryd.func47, Tryd.ntmps47
      go_wp2_with (go_at_call 65; refine (wrap_some _ _ _ _ _).mono ?_; rintro e w' ⟨rfl, rfl⟩)
      go_ret
      exact ⟨_, _, rfl, _, (Stp.refl _ c w).alloc _ 1, ErrAt.new _ _ _ _ _⟩
    · have t1 : decide ((2097152 : Int) ≤ id) = false := by simpa using h1
      by_cases h2 : id ∈ l
      · have e1 : gaddErr l id = 4 := by simp [gaddErr, h0, h1, h2]
        rw [e1]
        have H2 := Lib.hid h2
        clear e1 he h0 h1 h2
        go_enter Tryd.func47, Tryd.ntmps47
        go_wp2_with (first
          | (go_at_call 83; refine (contains_yes Hr.out.toIn _ H2.out).mono ?_; rintro e w' ⟨rfl, rfl⟩)
          | (go_at_call 65; refine (wrap_some _ _ _ _ _).mono ?_; rintro e w' ⟨rfl, rfl⟩))
        go_ret
        exact ⟨_, _, rfl, _, (Stp.refl _ c w).alloc _ 1, ErrAt.new _ _ _ _ _⟩
      · have hl : (32 : Int) ≤ l.length := by
          by_cases h3 : (32 : Int) ≤ l.length
          · exact h3
          · exact absurd (by simp [gaddErr, h0, h1, h2]; omega) he
        have e1 : gaddErr l id = 8 := by simp [gaddErr, h0, h1, h2]; omega
        rw [e1]
        have H2 := Lib.hid h2
        have t2 : decide ((32 : Int) ≤ l.length) = true := by simpa using hl
        clear e1 he h0 h1 h2 hl
        go_enter Tryd.func47, Tryd.ntmps47
        go_wp2_with (first
          | (go_at_call 83; refine (contains_no Hr.out.toIn _ H2.out).mono ?_; rintro e w' ⟨rfl, rfl⟩)
          | (go_at_call 65; refine (wrap_some _ _ _ _ _).mono ?_; rintro e w' ⟨rfl, rfl⟩))
        go_ret
        exact ⟨_, _, rfl, _, (Stp.refl _ c w).alloc _ 1, ErrAt.new _ _ _ _ _⟩

theorem gadd_ok {c : Nat → Nat} {k : Nat} {w : World} {p : Nat} {l : List Int} (h : GroupAt c k w p l) (id : Int) (he : gaddErr l id = 0) :
    Calls Tryd.prog 47 #[.pointer (some ⟨p, 0, none⟩), .int .i64 id] w fun e w' => e = .returned .nilIface ∧ ∃ c', Stp (· = k) c c' w w' ∧ GroupAt c' k w' p (l ++ [id]) := by
  obtain ⟨ao, cap, hb, hr⟩ := h
  have c0 := hb.cell 0
  simp at c0
  have hcond : ¬ id < 0 ∧ ¬ 2097152 ≤ id ∧ id ∉ l ∧ ¬ (32 : Int) ≤ l.length := by
    unfold gaddErr at he
    split at he
    · cases he
    · split at he
      · cases he
      · split at he
        · cases he
        · rename_i h1 h2 h3; exact ⟨by omega, by omega, h2, h3⟩
  obtain ⟨h0, h1, h2, h3⟩ := hcond
  have t0 : decide (id < 0) = false := by simpa using h0
  have t1 : decide ((2097152 : Int) ≤ id) = false := by simpa using h1
  have t2 : decide ((32 : Int) ≤ l.length) = false := by simpa using h3
  have Hb := Lib.hid hb
  have Hr := Lib.hid hr
  have H2 := Lib.hid h2
  have hlt := hb.lt
  have hl3 : (l.length : Int) < 32 := by omega
  have Hl := Lib.hid hl3
  clear hb hr he h0 h1 h2 h3 hl3
  go_enter Tryd.func47, Tryd.ntmps47
  go_wp2_with (first
    | (go_at_call 83; refine (contains_no Hr.out.toIn _ H2.out).mono ?_; rintro e w' ⟨rfl, rfl⟩)
    | (at_builtin; refine wpList_append_row _ rfl (.tmp 43) (.tmp 45) 31 rfl (paint c w.heap.size k) k 3 (.int .i64 0) 1 8 Tryd.underlying31 Tryd.infoInt rfl ao l.length cap (l.map (Value.int .i64)) rfl (Hr.out.alloc _ _) _ 1 [.int .i64 id] rfl (Src.one _ _ _) ?c1 ?c2 ?c3 ?_))
  case c1 => simp [Value.oneCell']
  case c2 => have := Hl.out; unfold maxLen; omega
  case c3 => have := Hl.out; omega
  intro ao' cap' w1 hr1 st1 ot1
  have hb1 := (Hb.out.alloc (.cells #[.int .i64 id] 3) k).kept (st1.col p (by simp; omega)) ot1 (Hr.out.ne_blk Hb.out (by decide))
  have d0 := hb1.cell 0
  have e0 := hb1.free 0
  simp at d0
  have Hb1 := Lib.hid hb1
  have Hr1 := Lib.hid hr1
  have Hst := Lib.hid st1
  clear hb1 hr1 st1 ot1 c0
  go_wp2
  go_ret
  refine ⟨rfl, _, (((Stp.refl _ c w).alloc _ k).trans Hst.out).setCell _ Hb1.out.1, ao', cap', ?_, ?_⟩
  · simpa using Hb1.out.set 0 (.slice ao' (l.length + 1) cap')
  · simpa using Hr1.out.other _ (Hr1.out.ne_blk Hb1.out (by decide)) rfl

theorem gadd_nil (id : Int) (w : World) :
    Calls Tryd.prog 47 #[.pointer none, .int .i64 id] w fun e w' => e = .returned (.iface 119 (.int .i64 2)) ∧ w = w' := by
  go_enter Tryd.func47, Tryd.ntmps47
  go_wp2
  go_ret
  exact ⟨rfl, rfl⟩

theorem gcells_nil (w : World) :
    Calls Tryd.prog 75 #[.pointer none] w fun e w' => e = .returned (.slice none 0 0) ∧ w = w' := by
  go_enter Tryd.func75, Tryd.ntmps75
  go_wp2
  go_ret
  exact ⟨rfl, rfl⟩

theorem glen_nil (w : World) :
    Calls Tryd.prog 56 #[.pointer none] w fun e w' => e = .returned (.int .i64 0) ∧ w = w' := by
  go_enter Tryd.func56, Tryd.ntmps56
  go_wp2
  go_ret
  exact ⟨rfl, rfl⟩

theorem glen_any {c : Nat → Nat} {k : Nat} {w : World} {p : Nat} {l : List Int} (h : GroupAt c k w p l) :
    Calls Tryd.prog 56 #[.pointer (some ⟨p, 0, none⟩)] w fun e w' => e = .returned (.int .i64 l.length) ∧ w = w' := by
  obtain ⟨ao, cap, hb, hr⟩ := h
  have c0 := hb.cell 0
  simp at c0
  clear hb hr
  go_enter Tryd.func56, Tryd.ntmps56
  go_wp2
  go_ret
  exact ⟨rfl, rfl⟩

theorem gcells_any {c : Nat → Nat} {k : Nat} {w : World} {p : Nat} {l : List Int} (h : GroupAt c k w p l) (k2 : Nat) (hl : (l.length : Int) ≤ 1048576) :
    Calls Tryd.prog 75 #[.pointer (some ⟨p, 0, none⟩)] w fun e w' => ∃ ao' cap', e = .returned (.slice ao' l.length cap') ∧ ∃ c', Stp (fun _ => False) c c' w w' ∧ Row c' k2 w' 3 1 ao' l.length cap' (l.map (Value.int .i64)) := by
  obtain ⟨ao, cap, hb, hr⟩ := h
  have c0 := hb.cell 0
  simp at c0
  have Hr := Lib.hid hr
  have Hl := Lib.hid hl
  clear hb hr hl
  go_enter Tryd.func75, Tryd.ntmps75
  go_wp2_with (go_at_call 95; refine (clone_in Hr.out.toIn k2 Hl.out).mono ?_; rintro e w' ⟨ao', cap', rfl, c', s', hr'⟩)
  go_ret
  exact ⟨_, _, rfl, c', s', hr'⟩

theorem gleast_nil (a : Value) (most : Int) (w : World) :
    Calls Tryd.prog 78 #[.pointer none, a, .int .i64 most] w fun e w' => e = .returned (.tuple #[.int .i64 0, .iface 119 (.int .i64 2)]) ∧ w = w' := by
  go_enter Tryd.func78, Tryd.ntmps78
  go_wp2
  go_ret2
  exact ⟨rfl, rfl⟩

theorem gleast_nila (p : Nat) (most : Int) (w : World) :
    Calls Tryd.prog 78 #[.pointer (some ⟨p, 0, none⟩), .pointer none, .int .i64 most] w fun e w' => e = .returned (.tuple #[.int .i64 0, .iface 119 (.int .i64 2)]) ∧ w = w' := by
  go_enter Tryd.func78, Tryd.ntmps78
  go_wp2
  go_ret2
  exact ⟨rfl, rfl⟩

/-- What the cells of a group have. -/
def valAt (la : List Int) (id : Int) : Int := la.getD id.toNat 0

theorem fold_take {l : List Int} {f : Int → Int} {m : Int} {j : Nat} (hj : j < l.length) : ((l.take (j + 1)).map f).foldl min m = min (((l.take j).map f).foldl min m) (f (l.getD j 0)) := by
  rw [List.take_succ_eq_append_getElem hj, List.map_append, List.foldl_append]
  simp [List.getD, hj]

def LeastRel (c : Nat → Nat) (ka : Nat) (w : World) (q : Nat) (la : List Int) (s : Int) (l : List Int) (most : Int) (m i : Value) (wr : World) : Prop :=
  ∃ (c' : Nat → Nat) (j : Nat) (x : Int), i = .int .i64 j ∧ j ≤ l.length ∧ m = .int .i64 x ∧ x = ((l.take j).map (valAt la)).foldl min most ∧ Stp (· = ka) c c' w wr ∧ ArenaAt c' ka wr q la (s + j)

theorem gleast_ok {c : Nat → Nat} {kg ka : Nat} {w : World} {p q : Nat} {l la : List Int} {s : Int} (hg : GroupAt c kg w p l) (ha : ArenaAt c ka w q la s) (hne : kg ≠ ka) (hid : ∀ x ∈ l, 0 ≤ x ∧ x < la.length) (s0 : 0 ≤ s) (s1 : s + l.length < 4611686018427387904) (most : Int) :
    Calls Tryd.prog 78 #[.pointer (some ⟨p, 0, none⟩), .pointer (some ⟨q, 0, none⟩), .int .i64 most] w fun e w' => e = .returned (.tuple #[.int .i64 ((l.map (valAt la)).foldl min most), .nilIface]) ∧ ∃ c', Stp (· = ka) c c' w w' ∧ ArenaAt c' ka w' q la (s + l.length) := by
  have Ha := Lib.hid ha
  have Hid' := Lib.hid hid
  have Hs := Lib.hid s1
  obtain ⟨ao, cap, hb, hr⟩ := hg
  have c0 := hb.cell 0
  simp at c0
  have Hr := Lib.hid hr
  have hml : l.length ≤ 9223372036854775807 := by have h1 := hr.2.1; have h2 := hr.2.2.1; simp only [maxLen] at h2; omega
  clear hb hr ha hid s1
  go_enter Tryd.func78, Tryd.ntmps78
  go_wp2
  go_loopw [2, 24] (fun m i wr => LeastRel c ka w q la s l most m i wr) (fun _ i _ => l.length - (intOf i).toNat)
  case atStart => exact ⟨c, 0, most, rfl, Nat.zero_le _, rfl, rfl, Stp.refl _ _ _, by simpa using Ha.out⟩
  case round =>
    obtain ⟨c', j, x, rfl, hj, rfl, hx, st, hat⟩ := hrel
    have Hx := Lib.hid hx
    have St := Lib.hid st
    have Hat := Lib.hid hat
    clear hx st hat
    by_cases hlt : j < l.length
    · obtain ⟨a, hao, hc⟩ := (Hr.out.toIn.stp St.out hne).ints hlt
      subst hao
      have hm : l.getD j 0 ∈ l := by simp [List.getD, hlt]
      obtain ⟨t, ht⟩ := Int.eq_ofNat_of_zero_le (Hid'.out _ hm).1
      have htl : t < la.length := by have := (Hid'.out _ hm).2; omega
      have Hf := Lib.hid (fold_take (f := valAt la) (m := most) hlt)
      rw [ht] at hc
      have hv : valAt la (l.getD j 0) = la.getD t 0 := by rw [ht]; rfl
      have Hv := Lib.hid hv
      clear hv hm ht
      go_wp2_with fail
      refine (load_ok Hat.out t htl (by omega) (by have := Hs.out; omega)).mono ?_
      rintro e w2 ⟨rfl, c2, s2, h2⟩
      have S2 := Lib.hid (St.out.trans s2)
      have H2 := Lib.hid h2
      clear s2 h2
      generalize la.getD t 0 = y at *
      go_wp2
      go_roundw
      case rel =>
        refine ⟨c2, j + 1, _, by go_num, by omega, rfl, ?_, S2.out, ?_⟩
        · rw [Hf.out, ← Hx.out, Hv.out]; split <;> omega
        · have := H2.out
          rw [Int.add_assoc] at this
          exact this
      case measure => simp [intOf]; omega
    · have hjn : j = l.length := by omega
      have Hj := Lib.hid hjn
      clear hjn
      go_wp2
      go_ret2
      refine ⟨by rw [Hx.out, Hj.out, List.take_length]; rfl, c', St.out, ?_⟩
      have := Hat.out
      rw [Hj.out] at this
      exact this

def addRef (r : List Int × Int) (id : Int) : List Int × Int := if r.2 = 0 then (if gaddErr r.1 id = 0 then (r.1 ++ [id], 0) else (r.1, gaddErr r.1 id)) else r

theorem addRef_stuck : ∀ (l : List Int) (r : List Int × Int), r.2 ≠ 0 → l.foldl addRef r = r
  | [], r, _ => rfl
  | x :: l, r, h => by rw [List.foldl_cons, show addRef r x = r by simp [addRef, h]]; exact addRef_stuck l r h

theorem addRef_take {l : List Int} {j : Nat} (hj : j < l.length) (r : List Int × Int) : (l.take (j + 1)).foldl addRef r = addRef ((l.take j).foldl addRef r) (l.getD j 0) := by
  rw [List.take_succ_eq_append_getElem hj, List.foldl_append]
  simp [List.getD, hj]

theorem addRef_split {l : List Int} {j : Nat} (r : List Int × Int) : l.foldl addRef r = (l.drop j).foldl addRef ((l.take j).foldl addRef r) := by
  rw [← List.foldl_append, List.take_append_drop]

def OfRel (c : Nat → Nat) (k : Nat) (w : World) (l : List Int) (i : Value) (wr : World) : Prop :=
  ∃ (c' : Nat → Nat) (j : Nat) (g : List Int), i = .int .i64 j ∧ j ≤ l.length ∧ (l.take j).foldl addRef ([], 0) = (g, 0) ∧ Stp (· = k) c c' w wr ∧ GroupAt c' k wr w.heap.size g

theorem gof_any {c : Nat → Nat} {k0 : Nat} {w : World} {ao : Option Addr} {n cap : Nat} {l : List Int} (h : In c k0 w 1 ao n cap (l.map (Value.int .i64))) (k : Nat) (hk : k0 ≠ k) :
    Calls Tryd.prog 76 #[.slice ao n cap] w fun e w' => ∃ c', Stp (· = k) c c' w w' ∧
      (((l.foldl addRef ([], 0)).2 = 0 ∧ ∃ p, e = .returned (.tuple #[.pointer (some ⟨p, 0, none⟩), .nilIface]) ∧ GroupAt c' k w' p (l.foldl addRef ([], 0)).1) ∨
       ((l.foldl addRef ([], 0)).2 ≠ 0 ∧ ∃ ev, e = .returned (.tuple #[.pointer none, ev]) ∧ ErrAt c' w' ev (l.foldl addRef ([], 0)).2)) := by
  have hl : l.length = n := by simpa using h.1
  have hm : n ≤ 9223372036854775807 := by have h1 := h.2.1; have h2 := h.2.2.1; simp only [maxLen] at h2; omega
  have H := Lib.hid h
  have Hl := Lib.hid hl
  clear h hl
  go_enter Tryd.func76, Tryd.ntmps76
  go_wp2
  go_loopw [12] (fun i wr => OfRel c k w l i wr) (fun i _ => n - (intOf i).toNat)
  case atStart => exact ⟨_, 0, [], rfl, Nat.zero_le _, rfl, (Stp.refl _ c w).alloc _ k, none, 0, Blk.new c k w _ _, Row.nil _ _ _ _ _⟩
  case round =>
    obtain ⟨c', j, g, rfl, hj, hg, st, hat⟩ := hrel
    rw [Hl.out] at hj
    have Hg := Lib.hid hg
    have St := Lib.hid st
    have Hat := Lib.hid hat
    clear hg st hat
    by_cases hlt : j < n
    · obtain ⟨a, hao, hc⟩ := (H.out.stp St.out hk).ints hlt
      subst hao
      have Hf := Lib.hid (addRef_take (l := l) (j := j) (by rw [Hl.out]; exact hlt) ([], 0))
      generalize l.getD j 0 = y at *
      by_cases he : gaddErr g y = 0
      · have He := Lib.hid he
        clear he
        go_wp2_with fail
        refine (gadd_ok Hat.out y He.out).mono ?_
        rintro e w2 ⟨rfl, c2, s2, h2⟩
        have S2 := Lib.hid (St.out.trans s2)
        have H2 := Lib.hid h2
        clear s2 h2
        go_wp2
        go_roundw
        case rel => exact ⟨c2, j + 1, g ++ [y], by go_num, by rw [Hl.out]; omega, by rw [Hf.out, Hg.out]; simp [addRef, He.out], S2.out, H2.out⟩
        case measure => simp [intOf]; omega
      · have He := Lib.hid he
        clear he
        go_wp2_with fail
        refine (gadd_bad Hat.out y He.out).mono ?_
        rintro e w2 ⟨t, v, rfl, c2, s2, h2⟩
        have S2 := Lib.hid (St.out.trans (s2.mono (fun _ h => h.elim)))
        have H2 := Lib.hid h2
        clear s2 h2
        go_wp2
        go_ret2
        have hfin : l.foldl addRef ([], 0) = (g, gaddErr g y) := by
          rw [addRef_split (j := j + 1), Hf.out, Hg.out, show addRef (g, 0) y = (g, gaddErr g y) by simp [addRef, He.out]]
          exact addRef_stuck _ _ He.out
        rw [hfin]
        exact ⟨c2, S2.out, .inr ⟨He.out, _, rfl, H2.out⟩⟩
    · have hjn : j = n := by omega
      have Hj := Lib.hid hjn
      clear hjn
      go_wp2
      go_ret2
      have hfin : l.foldl addRef ([], 0) = (g, 0) := by
        have := Hg.out
        rw [Hj.out, ← Hl.out, List.take_length] at this
        exact this
      rw [hfin]
      exact ⟨c', St.out, .inl ⟨rfl, _, rfl, Hat.out⟩⟩
end Go.Proofs.YtoifknfmamcimaaDoor
