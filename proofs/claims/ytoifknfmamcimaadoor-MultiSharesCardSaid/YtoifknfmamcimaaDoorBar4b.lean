/- Contracts of a barrier's New, Alert, After, of a settled probe's Step, of Show with its steps counted. No condition beyond each contract's own. -/
import Derived.Test.YtoifknfmamcimaaDoorBar1
import Derived.Test.YtoifknfmamcimaaDoorCells4
namespace Go.Proofs.YtoifknfmamcimaaDoor
open Go.RowKit

def ShowRelN (c : Nat → Nat) (ka : Nat) (w : World) (q : Nat) (l : List Int) (s : Int) (first sh : Nat) (lo hi : Int) (i : Value) (wr : World) : Prop :=
  ∃ (c' : Nat → Nat) (j : Nat), i = .int .i64 (lo + j) ∧ lo + j ≤ hi + 1 ∧ Stp (· = ka) c c' w wr ∧ ArenaAt c' ka wr q (showAll l first sh lo j) (s + j)

/-- Show of indexes that may be, its steps counted. -/
theorem avshow_n {c : Nat → Nat} {kb ka : Nat} {w : World} {p q sh first : Nat} {l : List Int} {s : Int} (hb : BufAt c kb w p sh first) (ha : ArenaAt c ka w q l s) (hne : kb ≠ ka) (hl : first + 2 ^ sh ≤ l.length) (lo hi : Int) (h0 : 0 ≤ lo) (h1 : lo ≤ hi) (h2 : hi ≤ 4611686018427387904) (h3 : hi - lo < 2 ^ sh) (s0 : 0 ≤ s) (s1 : s + (hi - lo) < 4611686018427387903) :
    Calls Tryd.prog 62 #[.pointer (some ⟨p, 0, none⟩), .pointer (some ⟨q, 0, none⟩), .int .i64 lo, .int .i64 hi] w fun e w' => e = .returned .nilIface ∧ ∃ c', Stp (· = ka) c c' w w' ∧
      ArenaAt c' ka w' q (showAll l first sh lo (hi - lo + 1).toNat) (s + (hi - lo + 1)) := by
  have Hl := Lib.hid hl
  have Hb := Lib.hid hb
  have Ha := Lib.hid ha
  have Hs0 := Lib.hid s0
  have Hs1 := Lib.hid s1
  obtain ⟨hsh, _, hbb⟩ := hb
  have c0 := hbb.cell 0
  simp at c0
  have t0 : decide (hi < lo) = false := by simp; omega
  have t1 : decide ((4611686018427387904 : Int) < hi) = false := by simp; omega
  have t2 : decide ((2 : Int) ^ sh ≤ hi - lo) = false := by simp; omega
  clear hbb ha s0 s1
  go_enter Tryd.func62, Tryd.ntmps62
  go_wp2_with (first
    | (go_at_call 90; refine (avright_ok _ _ _ _ h0 (by omega) _).mono ?_; rintro e w' ⟨rfl, rfl⟩)
    | (go_at_call 73; refine (slots_k sh hsh _).mono ?_; rintro e w' ⟨rfl, rfl⟩))
  go_loopw [10] (fun i wr => ShowRelN c ka w q l s first sh lo hi i wr) (fun i _ => (hi + 1 - intOf i).toNat)
  case atStart => exact ⟨_, 0, by simp, by omega, (Stp.refl _ c w).alloc _ 2, by simpa [showAll] using Ha.out.stp ((Stp.refl (fun _ => False) c w).alloc (.cells #[.int .i64 sh] 108) 2) id⟩
  case round =>
    obtain ⟨c', j, rfl, hj, st, hat⟩ := hrel
    have St := Lib.hid st
    have Hat := Lib.hid hat
    clear st hat
    by_cases hlt : lo + (j : Int) ≤ hi
    · have hjl : first + slotOf sh (lo + j) < (showAll l first sh lo j).length := by
        rw [showAll_len]
        have := (slotOf_lt sh (lo + j) hsh).1
        have := Hl.out
        omega
      have Hjl := Lib.hid hjl
      clear hjl
      go_wp2_with fail
      refine (avcell_any (Hb.out.stp St.out hne) (lo + j)).mono ?_
      rintro e w2 ⟨rfl, b2⟩
      have st2 := Stp.ofBelow (c := c') b2 2
      have B2 := Lib.hid ((Hb.out.stp St.out hne).stp st2 id)
      have A2 := Lib.hid (Hat.out.stp st2 id)
      have S2 := Lib.hid (St.out.trans (st2.mono (fun _ h => h.elim)))
      clear b2 st2
      go_wp2_with fail
      refine (avround_any B2.out (lo + j)).mono ?_
      rintro e w3 ⟨rfl, b3⟩
      have st3 := Stp.ofBelow (c := paint c' wr.heap.size 2) b3 2
      have A3 := Lib.hid (A2.out.stp st3 id)
      have S3 := Lib.hid (S2.out.trans (st3.mono (fun _ h => h.elim)))
      clear b3 st3 S2 A2 B2
      go_wp2_with fail
      refine (store_ok A3.out _ _ Hjl.out (by have := Hs0.out; omega) (by have := Hs1.out; omega)).mono ?_
      rintro e w4 ⟨rfl, c4, s4, a4⟩
      have A4 := Lib.hid a4
      have S4 := Lib.hid (S3.out.trans s4)
      clear s4 a4 S3 A3
      go_wp2
      go_roundw
      case rel => exact ⟨c4, j + 1, by rw [Int.natCast_add, ← Int.add_assoc]; go_num, by omega, S4.out, by rw [showAll_succ, show (s + ((j + 1 : Nat) : Int)) = s + j + 1 by omega]; exact A4.out⟩
      case measure => simp [intOf]; omega
    · have hjn : j = (hi - lo + 1).toNat := by omega
      have Hj := Lib.hid hjn
      have hjs : hi - lo + 1 = (j : Int) := by omega
      have Hjs := Lib.hid hjs
      clear hjn hjs
      go_wp2
      go_ret
      exact ⟨rfl, c', St.out, by rw [← Hj.out, Hjs.out]; exact Hat.out⟩

theorem ErrAt.iface' {c : Nat → Nat} {w : World} {v : Value} {n : Int} (h : ErrAt c w v n) : ∃ tt vv, v = .iface tt vv := by
  rcases h with rfl | ⟨_, _, _, rfl, _⟩
  · exact ⟨_, _, rfl⟩
  · exact ⟨_, _, rfl⟩

section
variable {c : Nat → Nat} {K : Nat} {w : World} {q b g : Nat} {bv : Option Addr} {la : List Int} {s : Int} {B : Bar}
set_option maxRecDepth 100000 in
theorem balert_any (hB : BarIs c K w b g bv B) : Calls Tryd.prog 32 #[.pointer (some ⟨b, 0, none⟩)] w fun e w' => e = .returned (.int .i64 B.al) ∧ w = w' := by
  obtain ⟨b0, b1, b2, b3, lb⟩ := hB.cells
  clear hB
  go_enter Tryd.func32, Tryd.ntmps32
  go_wp2
  go_ret
  exact ⟨rfl, rfl⟩
theorem balert_nil (w : World) : Calls Tryd.prog 32 #[.pointer none] w fun e w' => e = .returned (.int .i64 (-1)) ∧ w = w' := by
  go_enter Tryd.func32, Tryd.ntmps32
  go_wp2
  go_ret
  exact ⟨rfl, rfl⟩
set_option maxRecDepth 100000 in
theorem bafter_any (hB : BarIs c K w b g bv B) (k2 : Nat) (hl : (B.ids.length : Int) ≤ 1048576) : Calls Tryd.prog 33 #[.pointer (some ⟨b, 0, none⟩)] w fun e w' => ∃ ao' cap', e = .returned (.slice ao' B.ids.length cap') ∧ ∃ c', Stp (fun _ => False) c c' w w' ∧ Row c' k2 w' 3 1 ao' B.ids.length cap' (B.ids.map (Value.int .i64)) := by
  obtain ⟨b0, b1, b2, b3, lb⟩ := hB.cells
  have HG := Lib.hid hB.gr
  have Hl := Lib.hid hl
  clear hB hl
  go_enter Tryd.func33, Tryd.ntmps33
  go_wp2_with (go_at_call 75; refine (gcells_any HG.out k2 Hl.out).mono ?_; rintro e w' ⟨ao', cap', rfl, c', t, r⟩)
  go_ret
  exact ⟨_, _, rfl, c', t, r⟩
theorem bafter_nil (w : World) : Calls Tryd.prog 33 #[.pointer none] w fun e w' => e = .returned (.slice none 0 0) ∧ w = w' := by
  go_enter Tryd.func33, Tryd.ntmps33
  go_wp2
  go_ret
  exact ⟨rfl, rfl⟩

set_option maxRecDepth 100000 in
theorem bnew_ok {k0 : Nat} {ao : Option Addr} {n cap cur : Nat} {ids : List Int} {buf : Option (Nat × Nat)} (ha : ArenaAt c K w q la s) (hs : In c k0 w 1 ao n cap (ids.map (Value.int .i64))) (hk : k0 ≠ K + 2) (hk0 : k0 ≠ K) (hcur : cur < la.length) (hll : (la.length : Int) < 2097152) (hg : ids.foldl addRef ([], 0) = (ids, 0))
    (hb : (buf = none ∧ bv = none) ∨ ∃ sh first q, buf = some (sh, first) ∧ bv = some ⟨q, 0, none⟩ ∧ BufAt c (K + 3) w q sh first) :
    Calls Tryd.prog 35 #[.pointer (some ⟨q, 0, none⟩), .int .i64 cur, .pointer bv, .slice ao n cap] w fun e w' => ∃ b g, e = .returned (.tuple #[.pointer (some ⟨b, 0, none⟩), .nilIface]) ∧ ∃ c', Stp (fun k => k = K ∨ k = K + 2) c c' w w' ∧ ArenaAt c' K w' q (la ++ [0]) s ∧ BarIs c' (K + 1) w' b g bv ⟨cur, la.length, ids, buf⟩ := by
  have Ha := Lib.hid ha
  have Hs := Lib.hid hs
  have Hg := Lib.hid hg
  have Hb := Lib.hid hb
  have Hll := Lib.hid hll
  have Hk := Lib.hid hk
  have t0 : decide ((cur : Int) < 0) = false := by simp
  have t1 : decide (la.length ≤ cur) = false := by simp; omega
  have Hk0 := Lib.hid hk0
  clear ha hs hg hb hll hcur hk hk0
  go_enter Tryd.func35, Tryd.ntmps35
  go_wp2_with fail
  refine (len_any Ha.out).mono ?_
  rintro e w' ⟨rfl, rfl⟩
  go_wp2_with fail
  refine (gof_any Hs.out (K + 2) Hk.out).mono ?_
  rintro e w1 ⟨c1, t1', h⟩
  rw [Hg.out] at h
  rcases h with ⟨-, g, rfl, hg⟩ | ⟨h, _⟩
  · have G1 := Lib.hid hg
    have A1 := Lib.hid (Ha.out.stp t1' (by omega))
    have T1 := Lib.hid (t1'.mono (J' := fun k => k = K ∨ k = K + 2) (fun _ h => .inr h))
    clear hg t1'
    go_wp2_with fail
    refine (alloc_ok A1.out 0 Hll.out).mono ?_
    rintro e w2 ⟨rfl, c2, t2, a2⟩
    have A2 := Lib.hid a2
    have G2 := Lib.hid (G1.out.stp t2 (by omega))
    have T2 := Lib.hid (T1.out.trans (t2.mono (J' := fun k => k = K ∨ k = K + 2) (fun _ h => .inl h)))
    obtain ⟨c3, hc3, A3⟩ := ((Stp.refl (fun _ => False) c2 w2).alloc (.cells #[.int .i64 cur, .pointer bv, .pointer (some ⟨g, 0, none⟩), .int .i64 la.length] 121) (K + 1)).name
    have Z := Lib.hid (show Blk c3 (K + 1) (w2.alloc (.cells #[.int .i64 cur, .pointer bv, .pointer (some ⟨g, 0, none⟩), .int .i64 la.length] 121)) w2.heap.size [.int .i64 cur, .pointer bv, .pointer (some ⟨g, 0, none⟩), .int .i64 la.length] 121 by rw [hc3.out]; exact Blk.new c2 (K + 1) w2 _ _)
    have hb3 : (buf = none ∧ bv = none) ∨ ∃ sh first q, buf = some (sh, first) ∧ bv = some ⟨q, 0, none⟩ ∧ BufAt c3 (K + 3) (w2.alloc (.cells #[.int .i64 cur, .pointer bv, .pointer (some ⟨g, 0, none⟩), .int .i64 la.length] 121)) q sh first := by
      rcases Hb.out with h | ⟨sh, first, q, h1, h2, h3⟩
      · exact .inl h
      · exact .inr ⟨sh, first, q, h1, h2, (h3.stp T2.out (by omega)).stp A3.out id⟩
    have Hb3 := Lib.hid hb3
    clear t2 a2 hb3 hc3
    go_wp2
    go_ret2
    exact ⟨_, g, rfl, c3, T2.out.trans (A3.out.mono (fun _ h => h.elim)), A2.out.stp A3.out id, ⟨Z.out, G2.out.stp A3.out id, Hb3.out⟩⟩
  · exact absurd rfl h

theorem bnew_nil (x : Int) (v : Value) (w : World) : Calls Tryd.prog 35 #[.pointer none, .int .i64 x, v, .slice none 0 0] w fun e w' => e = .returned (.tuple #[.pointer none, .iface 119 (.int .i64 2)]) ∧ w = w' := by
  go_enter Tryd.func35, Tryd.ntmps35
  go_wp2
  go_ret2
  exact ⟨rfl, rfl⟩

set_option maxRecDepth 100000 in
theorem bnew_out (ha : ArenaAt c K w q la s) (x : Nat) (hx : la.length ≤ x) (v : Value) :
    Calls Tryd.prog 35 #[.pointer (some ⟨q, 0, none⟩), .int .i64 x, v, .slice none 0 0] w fun e w' => ∃ t ev, e = .returned (.tuple #[.pointer none, .iface t ev]) ∧ ∃ c', Stp (fun _ => False) c c' w w' ∧ ErrAt c' w' (.iface t ev) 3 := by
  have Ha := Lib.hid ha
  have S := Lib.hid ((Stp.refl (fun _ => False) c w).alloc (.cells #[.string ⟨#[98, 97, 114, 114, 105, 101, 114]⟩, .int .i64 x, .iface 119 (.int .i64 3)] 152) 1)
  have E := Lib.hid (ErrAt.new c w ⟨#[98, 97, 114, 114, 105, 101, 114]⟩ x 3)
  have t1 : decide (la.length ≤ x) = true := by simpa using hx
  clear ha
  go_enter Tryd.func35, Tryd.ntmps35
  go_wp2_with (first
    | (go_at_call 34; refine (len_any Ha.out).mono ?_; rintro e w' ⟨rfl, rfl⟩)
    | (go_at_call 65; refine (wrap_some _ _ _ _ _).mono ?_; rintro e w' ⟨rfl, rfl⟩))
  go_ret2
  exact ⟨_, _, rfl, _, S.out, E.out⟩

set_option maxRecDepth 100000 in
theorem bnew_dup {k0 : Nat} {ao : Option Addr} {n cap cur : Nat} {ids : List Int} {m : Int} (ha : ArenaAt c K w q la s) (hs : In c k0 w 1 ao n cap (ids.map (Value.int .i64))) (hk : k0 ≠ K + 2) (hcur : cur < la.length) (hg : (ids.foldl addRef ([], 0)).2 = m) (hm : m ≠ 0) (v : Value) :
    Calls Tryd.prog 35 #[.pointer (some ⟨q, 0, none⟩), .int .i64 cur, v, .slice ao n cap] w fun e w' => ∃ ev, e = .returned (.tuple #[.pointer none, ev]) ∧ ∃ c', Stp (· = K + 2) c c' w w' ∧ ErrAt c' w' ev m := by
  have Ha := Lib.hid ha
  have Hs := Lib.hid hs
  have Hg := Lib.hid hg
  have Hm := Lib.hid hm
  have Hk := Lib.hid hk
  have t0 : decide ((cur : Int) < 0) = false := by simp
  have t1 : decide (la.length ≤ cur) = false := by simp; omega
  clear ha hs hg hcur hk hm
  go_enter Tryd.func35, Tryd.ntmps35
  go_wp2_with fail
  refine (len_any Ha.out).mono ?_
  rintro e w' ⟨rfl, rfl⟩
  go_wp2_with fail
  refine (gof_any Hs.out (K + 2) Hk.out).mono ?_
  rintro e w1 ⟨c1, t1', h⟩
  rw [Hg.out] at h
  rcases h with ⟨h, -⟩ | ⟨-, ev, rfl, he⟩
  · exact absurd h Hm.out
  · have T1 := Lib.hid t1'
    have E1 := Lib.hid he
    obtain ⟨t, u, rfl⟩ := E1.out.iface'
    clear t1' he
    go_wp2
    go_ret2
    exact ⟨_, rfl, c1, T1.out, E1.out⟩

set_option maxRecDepth 100000 in
theorem pstep_fin (next stage : Int) (ao : Option Addr) (n cap : Nat) (most hi pos sign : Int) (b q : Nat) (c : Nat → Nat) (w : World) :
    Calls Tryd.prog 18 #[.agg #[.pointer (some ⟨b, 0, none⟩), .int .i64 next, .int .i64 stage, .slice ao n cap, .int .i64 most, .int .i64 hi, .int .i64 pos, .int .i64 sign, .bool true], .pointer (some ⟨q, 0, none⟩)] w fun e w' => e = .returned (.tuple #[.agg #[.pointer (some ⟨b, 0, none⟩), .int .i64 next, .int .i64 stage, .slice ao n cap, .int .i64 most, .int .i64 hi, .int .i64 pos, .int .i64 sign, .bool true], .nilIface]) ∧ ∃ c', Stp (fun _ => False) c c' w w' := by
  have S := Lib.hid (((Stp.refl (fun _ => False) c w).alloc (.cells #[.pointer (some ⟨b, 0, none⟩), .int .i64 next, .int .i64 stage, .slice ao n cap, .int .i64 most, .int .i64 hi, .int .i64 pos, .int .i64 sign, .bool true] 35) 0).alloc (.cells #[.pointer (some ⟨b, 0, none⟩), .int .i64 next, .int .i64 stage, .slice ao n cap, .int .i64 most, .int .i64 hi, .int .i64 pos, .int .i64 sign, .bool true] 35) 0)
  go_enter Tryd.func18, Tryd.ntmps18
  go_wp2
  exact bodyPost_ret (v := .tuple #[.agg #[.pointer (some ⟨b, 0, none⟩), .int .i64 next, .int .i64 stage, .slice ao n cap, .int .i64 most, .int .i64 hi, .int .i64 pos, .int .i64 sign, .bool true], .nilIface]) (by simp [results, Tryd.results18, go_sem]) rfl ⟨rfl, _, S.out⟩
set_option maxRecDepth 100000 in
theorem pstep_nil (bv : Option Nat) (next : Int) (c : Nat → Nat) (w : World) :
    Calls Tryd.prog 18 #[.agg #[.pointer (bv.map fun b => ⟨b, 0, none⟩), .int .i64 next, .int .i64 0, .slice none 0 0, .int .i64 0, .int .i64 0, .int .i64 0, .int .i64 0, .bool false], .pointer none] w fun e w' => ∃ v, e = .returned (.tuple #[v, .iface 119 (.int .i64 2)]) ∧ ∃ c', Stp (fun _ => False) c c' w w' := by
  have S := Lib.hid (((Stp.refl (fun _ => False) c w).alloc (.cells #[.pointer (bv.map fun b => ⟨b, 0, none⟩), .int .i64 next, .int .i64 0, .slice none 0 0, .int .i64 0, .int .i64 0, .int .i64 0, .int .i64 0, .bool false] 35) 0).alloc (.cells #[.pointer (bv.map fun b => ⟨b, 0, none⟩), .int .i64 next, .int .i64 0, .slice none 0 0, .int .i64 0, .int .i64 0, .int .i64 0, .int .i64 0, .bool false] 35) 0)
  go_enter Tryd.func18, Tryd.ntmps18
  go_wp2
  exact bodyPost_ret (v := .tuple #[.agg #[.pointer (bv.map fun b => ⟨b, 0, none⟩), .int .i64 next, .int .i64 0, .slice none 0 0, .int .i64 0, .int .i64 0, .int .i64 0, .int .i64 0, .bool false], .iface 119 (.int .i64 2)]) (by simp [results, Tryd.results18, go_sem]) rfl ⟨_, rfl, _, S.out⟩
end
end Go.Proofs.YtoifknfmamcimaaDoor
