/- Contract of Span of package slots. No condition beyond the contract's own. -/
import Derived.Test.YteicmmgpkhmlbaaDoorSlotsPlays
namespace Go.Proofs.YteicmmgpkhmlbaaDoor
open Go.RowKit

section
variable {P : Program}
theorem step_append_row {w : World} {ops : Array Oper} {o : Oper} {a : Act} {K : Act → World → Prop} {Q : Exit → Act → World → Prop} {E : Prop} (hg : o.guard = none) (s x : Operand) (t : TypeId)
    (hop : o.op = Op.call { callee := Callee.builtin Builtin.append, args := #[s, x], argTypes := #[t, t] })
    (c : Nat → Nat) (k : Nat) (e : TypeId) (z : Value) (size bytes : Nat) (ht : P.underlying t = some (.slice e)) (hinfo : (P.info? e).map (fun i => (i.zero, i.size, i.bytes)) = some (some z, size, bytes)) (hzs : z.cells.size = size)
    (ao : Option Addr) (n cap : Nat) (xs : List Value) (hs : a.eval s = .slice ao n cap) (hrow : Row c k w e size ao n cap xs)
    (y : Value) (m : Nat) (news : List Value) (hx : a.eval x = y) (hsrc : Src w size y m news) (h1 : ∀ u ∈ news, u.oneCell' = true)
    (h63 : n + m ≤ maxLen) (hbytes : (n + m) * bytes ≤ 140737488355328)
    (hK : ∀ ao' cap' w', Row (paint c w.heap.size k) k w' e size ao' (n + m) cap' (xs ++ news) → Stp (· = k) c (paint c w.heap.size k) w w' → K (a.put o.dst (.slice ao' (n + m) cap')) w') :
    if Region.wanted o (yielded ops a.tmps) = true then Oper.wp P o a w K Q else E := by
  have hw : Region.wanted o (yielded ops a.tmps) = true := by simp [Region.wanted, hg]
  rw [if_pos hw]
  obtain ⟨i, hi, hz, hsize, hby⟩ := info_parts hinfo
  subst hsize; subst hby
  obtain ⟨ao', cap', w', hr, h2, h3, _⟩ := run_append_row (P := P) w c k t o.type e i z ht hi hz hzs ao n cap xs hrow y m news hsrc h1 h63 hbytes
  unfold Oper.wp
  simp [execOp, hop, resolve, invoke, builtin, hs, hx, hr, Result.andThen]
  exact hK _ _ _ h2 h3
end

theorem slspan_refused {w : World} {c : Nat → Nat} {k : Nat} {p sh : Nat} {l : List Ev} (h : RingAt c k w p sh l) (lo hi : Int) (h0 : 0 ≤ lo) (h1 : lo ≤ 4611686018427387904) (h2 : hi < lo ∨ 2 ^ sh ≤ hi - lo ∨ 4611686018427387904 < hi) (hb : -9223372036854775808 ≤ hi ∧ hi < 9223372036854775808) :
    Calls Tryd.prog 41 #[.pointer (some ⟨p, 0, none⟩), .int .i64 lo, .int .i64 hi] w fun e w' => ∃ ev, e = .returned (.tuple #[.slice none 0 0, ev]) ∧ ∃ c', Stp (fun _ => False) c c' w w' ∧ ErrAt c' w' ev 1 := by
  obtain ⟨hsh, -, g, gcap, hbk, -⟩ := h
  have c0 := hbk.cell 0
  simp at c0
  have hlt := hbk.lt
  have hw := wrap_two_pow sh hsh
  clear hbk
  by_cases q0 : hi < lo
  · have t0 : decide (hi < lo) = true := by simpa using q0
    clear h2 q0
    go_enter Tryd.func41, Tryd.ntmps41
    go_wp2_with (go_at_call 70; refine (slat_ok _ _ _ h0 h1 _).mono ?_; rintro e w' ⟨rfl, rfl⟩)
    refine (wrap_some _ _ _ _ _).mono ?_
    rintro e w' ⟨rfl, rfl⟩
    go_wp2
    exact bodyPost_ret (v := .tuple #[.slice none 0 0, .iface _ _]) (by simp [results, Tryd.results41, go_sem]) rfl ⟨_, rfl, _, (Stp.refl _ c w).alloc _ 1, ErrAt.new _ _ _ _ _⟩
  · have t0 : decide (hi < lo) = false := by simpa using q0
    have W1 : wrap64 (hi - lo) = hi - lo := IntWalk.wrap64_in _ ⟨by omega, by omega⟩
    by_cases q1 : 2 ^ sh ≤ hi - lo
    · have t1 : decide ((2 : Int) ^ sh ≤ hi - lo) = true := by simpa using q1
      clear h2 q0 q1
      go_enter Tryd.func41, Tryd.ntmps41
      go_wp2_with (go_at_call 70; refine (slat_ok _ _ _ h0 h1 _).mono ?_; rintro e w' ⟨rfl, rfl⟩)
      refine (slots_k sh hsh _).mono ?_
      rintro e w9 ⟨rfl, rfl⟩
      go_wp2_with fail
      refine (wrap_some _ _ _ _ _).mono ?_
      rintro e w' ⟨rfl, rfl⟩
      go_wp2
      exact bodyPost_ret (v := .tuple #[.slice none 0 0, .iface _ _]) (by simp [results, Tryd.results41, go_sem]) rfl ⟨_, rfl, _, ((Stp.refl _ c w).alloc _ 0).alloc _ 1, ErrAt.new _ _ _ _ _⟩
    · have t1 : decide ((2 : Int) ^ sh ≤ hi - lo) = false := by simpa using q1
      have t2 : decide ((4611686018427387904 : Int) < hi) = true := by simp; omega
      clear h2 q0 q1
      go_enter Tryd.func41, Tryd.ntmps41
      go_wp2_with (go_at_call 70; refine (slat_ok _ _ _ h0 h1 _).mono ?_; rintro e w' ⟨rfl, rfl⟩)
      refine (slots_k sh hsh _).mono ?_
      rintro e w9 ⟨rfl, rfl⟩
      go_wp2_with fail
      refine (wrap_some _ _ _ _ _).mono ?_
      rintro e w' ⟨rfl, rfl⟩
      go_wp2
      exact bodyPost_ret (v := .tuple #[.slice none 0 0, .iface _ _]) (by simp [results, Tryd.results41, go_sem]) rfl ⟨_, rfl, _, ((Stp.refl _ c w).alloc _ 0).alloc _ 1, ErrAt.new _ _ _ _ _⟩

set_option maxRecDepth 100000 in
set_option maxHeartbeats 2000000 in
theorem slspan_ok {w : World} {c : Nat → Nat} {k : Nat} {p sh : Nat} {l : List Ev} (h : RingAt c k w p sh l) (k2 : Nat) (hk : k2 ≠ k) (lo hi : Int) (m : Nat) (hm : (m : Int) = hi - lo + 1) (hmp : 0 < m) (h0 : 0 ≤ lo) (h2 : hi - lo < 2 ^ sh) (h3 : hi ≤ 4611686018427387904) :
    Calls Tryd.prog 41 #[.pointer (some ⟨p, 0, none⟩), .int .i64 lo, .int .i64 hi] w fun e w' => ∃ (ao : Option Addr) (cap : Nat) (got : List Ev), e = .returned (.tuple #[.slice ao m cap, .nilIface]) ∧ ∃ c', Stp (· = k2) c c' w w' ∧ Row c' k2 w' 52 2 ao m cap (got.flatMap Ev.cells) ∧ got.length = m ∧ ∀ t, t < m → got[t]? = l[slotOf sh (lo + t)]? := by
  have H := Lib.hid h
  obtain ⟨hsh, -, g, gcap, hbk, -⟩ := h
  have c0 := hbk.cell 0
  simp at c0
  have hlt := hbk.lt
  have hw := wrap_two_pow sh hsh
  have hbd := two_pow_bd sh hsh
  have h1 : lo ≤ 4611686018427387904 := by omega
  have t0 : decide (hi < lo) = false := by simp; omega
  have W1 : wrap64 (hi - lo) = hi - lo := IntWalk.wrap64_in _ ⟨by omega, by omega⟩
  have t1 : decide ((2 : Int) ^ sh ≤ hi - lo) = false := by simp; omega
  have t2 : decide ((4611686018427387904 : Int) < hi) = false := by simp; omega
  clear hbk
  go_enter Tryd.func41, Tryd.ntmps41
  go_wp2_with (go_at_call 70; refine (slat_ok _ _ _ h0 h1 _).mono ?_; rintro e w' ⟨rfl, rfl⟩)
  refine (slots_k sh hsh _).mono ?_
  rintro e w9 ⟨rfl, rfl⟩
  obtain ⟨cA, hcA, SA⟩ := ((Stp.refl (· = k2) c w).alloc (.cells #[.int .i64 sh] 24) 0).name
  have RA := Lib.hid (show RingAt cA k (w.alloc (.cells #[.int .i64 sh] 24)) p sh l from H.out.stp SA (by simpa using Ne.symm hk))
  have SA' := Lib.hid SA
  clear hcA SA
  go_wp2
  clear t0 t1 t2 W1 c0
  obtain ⟨wA, hwA⟩ : ∃ wA : World, wA = w.alloc (.cells #[.int .i64 sh] 24) := ⟨_, rfl⟩
  rw [← hwA] at RA SA' ⊢
  clear hwA
  go_loopw [9, 10] (fun v i wr => ∃ (j : Nat) (c' : Nat → Nat) (ao : Option Addr) (cap : Nat) (got : List Ev), v = .slice ao j cap ∧ i = .int .i64 (lo + j) ∧ j ≤ m ∧ Stp (· = k2) c c' w wr ∧ RingAt c' k wr p sh l ∧ Row c' k2 wr 52 2 ao j cap (got.flatMap Ev.cells) ∧ got.length = j ∧ ∀ t, t < j → got[t]? = l[slotOf sh (lo + t)]?) (fun _ i _ => m - (intOf i - lo).toNat)
  case atStart => exact ⟨0, cA, none, 0, [], rfl, by simp, Nat.zero_le _, SA'.out, RA.out, Row.nil _ _ _ _ _, rfl, fun t ht => absurd ht (Nat.not_lt_zero _)⟩
  case round =>
    obtain ⟨j, c2, ao, cap, got, rfl, rfl, hj, st, hrg, hrow, hgl, hget⟩ := hrel
    have St := Lib.hid st
    have Rg := Lib.hid hrg
    have Hrow := Lib.hid hrow
    have Hgl := Lib.hid hgl
    have Hget := Lib.hid hget
    clear RA SA' H
    by_cases hlt : j < m
    · have t1 : decide (lo + (j : Int) ≤ hi) = true := by simp; omega
      obtain ⟨-, hl, g, gcap, hb, hr⟩ := hrg
      obtain ⟨hs1, hs2⟩ := slotOf_lt sh (lo + j) hsh
      obtain ⟨s, hs⟩ : ∃ s, s = slotOf sh (lo + j) := ⟨_, rfl⟩
      rw [← hs] at hs1 hs2
      have hsl : s < l.length := by rw [hl]; exact hs1
      have Hs := Lib.hid hs
      have Hj := Lib.hid hs2
      have c0 := hb.cell 0
      have c1 := hb.cell 1
      simp at c0 c1
      obtain ⟨y, hy⟩ : ∃ y, l[s]? = some y := ⟨_, List.getElem?_eq_getElem hsl⟩
      obtain ⟨g', off', e', y0, -, _⟩ := hr.field Ev.len hy (f := 0) (v := .int .i64 y.key) rfl
      cases e'
      obtain ⟨g', off', e', y1, -, _⟩ := hr.field Ev.len hy (f := 1) (v := .int .i64 y.val) rfl
      cases e'
      simp at y0 y1
      have Hy := Lib.hid hy
      have T := Lib.hid hlt
      have hm20 : m ≤ 1048576 := by
        have := (pow_le20 sh hsh).2
        have := two_pow_cast sh
        omega
      have d2 : Hid (j + 1 ≤ maxLen) := Lib.hid (by unfold maxLen; omega)
      have d3 : Hid ((j + 1) * 16 ≤ 140737488355328) := Lib.hid (by omega)
      clear hb hr hy hs hs1 hs2 hl hlt st hrow hgl hget hbd hw hm20
      go_wp2
      go_region_law (first
        | (refine step_append_row rfl (.tmp 44) (.tmp 57) 64 rfl _ k2 52 (.agg #[.int .i64 0, .int .i64 0]) 2 16 Tryd.underlying64 Tryd.infoEv rfl ao j cap (got.flatMap Ev.cells) rfl ((Hrow.out.stp (Stp.ofBelow (c := c2) hB2 0) id).alloc _ k2) _ 1 [.int .i64 y.key, .int .i64 y.val] rfl (Src.newAt (cs := [.int .i64 y.key, .int .i64 y.val]) (by simp) rfl) (by simp [Value.oneCell']) d2.out d3.out ?_; intro ao3 cap3 w7 hr7 st7)
        | (go_simp; go_at_call 19; refine (withB (wb := wr) (index_j sh hsh (lo + j) s Hj.out _) ?_).mono ?_; (exact (Below.refl _ _).drew); rintro e w2 ⟨rfl, hB2⟩; have k0 := (hB2.cell (World.block_lt_of_cell? _ _ c0)).trans c0; have k1 := (hB2.cell (World.block_lt_of_cell? _ _ c1)).trans c1; have k4 := (hB2.cell (World.block_lt_of_cell? _ _ y0)).trans y0; have k5 := (hB2.cell (World.block_lt_of_cell? _ _ y1)).trans y1))
      all_goals
        have S7 := Lib.hid ((((Stp.ofBelow (c := c2) hB2 0).mono (J' := (· = k2)) (fun _ h => h.elim)).alloc (.cells #[.int .i64 y.key, .int .i64 y.val] 52) k2).trans st7)
        have R7 := Lib.hid hr7
        clear hr7 st7 k0 k1 k4 k5 c0 c1 y0 y1
        go_wp2
        go_roundw
        case rel => exact ⟨j + 1, _, ao3, cap3, got ++ [y], rfl, by rw [Int.natCast_add, ← Int.add_assoc]; go_num, T.out, St.out.trans S7.out, Rg.out.stp S7.out (by simpa using Ne.symm hk), by simpa [Ev.cells] using R7.out, by simp [Hgl.out], fun t ht => by
          by_cases he : t = j
          · subst he
            rw [List.getElem?_append_right (by rw [Hgl.out]; exact Nat.le_refl _), Hgl.out, ← Hs.out, Hy.out]
            simp
          · rw [List.getElem?_append_left (by rw [Hgl.out]; omega)]
            exact Hget.out t (by omega)⟩
        case measure => have := T.out; simp [intOf]; omega
    · have t1 : decide (lo + (j : Int) ≤ hi) = false := by simp; omega
      obtain rfl : j = m := by omega
      clear st hrg hrow hgl hget
      go_wp2
      exact bodyPost_ret (v := .tuple #[.slice ao j cap, .nilIface]) (by simp [results, Tryd.results41, go_sem]) rfl ⟨ao, cap, got, rfl, c2, St.out, Hrow.out, Hgl.out, Hget.out⟩
end Go.Proofs.YteicmmgpkhmlbaaDoor
