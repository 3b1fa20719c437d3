/- Contracts that the closing theorem wants (Doc). No condition beyond each law's own. -/
import Derived.Test.YtiphdedfbafhkaaGreatDoorZDwX
import Derived.Test.YtiphdedfbafhkaaGreatDoorZRgA
import Derived.Deep.LoopGhost
import Derived.Test.YtiphdedfbafhkaaGreatDoorZDwY
import Derived.Test.YtiphdedfbafhkaaGreatDoorZRpX
import Derived.Deep.QuietTactic
import Derived.BigQuiet
namespace Go.Proofs.YtiphdedfbafhkaaGreatDoor
open Go.RowKit

theorem r14new_c (c : Nat → Nat) (w : World) :
    Calls Tryz.prog 45 #[] w fun e w' => ∃ p tp, e = .returned (.pointer (some ⟨p, 0, none⟩)) ∧ ∃ c', Stp (fun _ => False) c c' w w' ∧ DWR c' w' p tp 0 [] [] none 0 [] := by
  obtain ⟨tp, htp⟩ : ∃ x, x = w.heap.size := ⟨_, rfl⟩
  obtain ⟨c1, hc1, t1⟩ := ((Stp.refl (fun _ => False) c w).alloc (.cells #[.slice none 0 0, .slice none 0 0, .slice none 0 0] 152) 3).name
  have B1 := Lib.hid (show Blk c1 3 (w.alloc (.cells #[.slice none 0 0, .slice none 0 0, .slice none 0 0] 152)) tp [.slice none 0 0, .slice none 0 0, .slice none 0 0] 152 by rw [hc1.out, htp]; exact Blk.new c 3 w _ _)
  clear hc1
  go_enter Tryz.func45, Tryz.ntmps45
  go_wp2
  go_ret
  rw [← htp]
  have e1 : (w.alloc (.cells #[.slice none 0 0, .slice none 0 0, .slice none 0 0] 152)).heap.size = tp + 1 := by simp [htp]
  generalize w.alloc (.cells #[.slice none 0 0, .slice none 0 0, .slice none 0 0] 152) = w1 at t1 B1 e1 ⊢
  have t2 := t1.out.alloc (.cells #[.int .i64 0, .slice none 0 0, .pointer (some ⟨tp, 0, none⟩), .slice none 0 0, .slice none 0 0] 158) 7
  rw [← e1]
  have B2 := Blk.new c1 7 w1 [.int .i64 0, .slice none 0 0, .pointer (some ⟨tp, 0, none⟩), .slice none 0 0, .slice none 0 0] 158
  refine ⟨_, tp, rfl, _, t2, ⟨8, none, 0, .inl rfl, B2, In.nil _ _ _ _ _, none, none, none, 0, 0, 0, B1.out.stp ((Stp.refl (fun _ => False) c1 w1).alloc _ 7) id, Row.nil _ _ _ _ _, Row.nil _ _ _ _ _, Row.nil _ _ _ _ _⟩, Row.nil _ _ _ _ _, fun i d hd => by simp at hd⟩

theorem r14last_any (c : Nat → Nat) (w : World) (i n st cl hi le : Int) (ao : Option Addr) (m cap : Nat) {b : Bool} (hb : (st == 5) = b) :
    Calls Tryz.prog 135 #[.agg #[.int .i64 i, .int .i64 n, .int .i64 st, .int .i64 cl, .int .i64 hi, .int .i64 le, .slice ao m cap]] w fun e w' => e = .returned (.int .i64 (if b = true then hi else -1)) ∧ ∃ c', Stp (fun _ => False) c c' w w' := by
  have S := Lib.hid ((Stp.refl (fun _ => False) c w).alloc (.cells #[.int .i64 i, .int .i64 n, .int .i64 st, .int .i64 cl, .int .i64 hi, .int .i64 le, .slice ao m cap] 218) 0)
  rcases b with _ | _
  all_goals
    go_enter Tryz.func135, Tryz.ntmps135
    go_wp2
    go_ret
    exact ⟨rfl, _, S.out⟩

theorem pow_step {j : Nat} {P : Int} (h : P = ((2 ^ j : Nat) : Int)) (hj : j ≤ 20) : P * 2 = ((2 ^ (j + 1) : Nat) : Int) ∧ 0 < P ∧ P ≤ 1048576 := by
  have h1 : 2 ^ j ≤ 2 ^ 20 := Nat.pow_le_pow_right (by decide) hj
  have h2 : 0 < 2 ^ j := Nat.two_pow_pos j
  have h3 : 2 ^ (j + 1) = 2 ^ j * 2 := Nat.pow_succ 2 j
  omega

set_option maxRecDepth 100000 in
theorem r14power_no (n : Int) (h : NoPow n) (w : World) :
    Calls Tryz.prog 125 #[.int .i64 n] w fun e w' => e = .returned (.bool false) ∧ w' = w := by
  have H := Lib.hid h
  clear h
  go_enter Tryz.func125, Tryz.ntmps125
  go_wp2
  go_loopg [3, 4] 21 (fun gh pv iv wr => wr = w ∧ ∃ (j : Nat) (P : Int), pv = .int .i64 P ∧ iv = .int .i64 j ∧ j + gh = 21 ∧ Hid (P = ((2 ^ j : Nat) : Int)))
  case atStart => exact ⟨rfl, 0, 1, rfl, rfl, rfl, Lib.hid rfl⟩
  case round =>
    obtain ⟨hw, j, P, rfl, rfl, hj, HP⟩ := hrel
    subst hw
    by_cases hlt : j ≤ 20
    · have g0 : (j : Int) ≤ 20 := by omega
      have g1 : (P == n) = false := by
        have := H.out j (by omega)
        rw [← HP.out] at this
        simpa using fun e => this e.symm
      obtain ⟨q1, q2, q3⟩ := pow_step HP.out hlt
      have w1_ : wrap64 (P * 2) = P * 2 := IntWalk.wrap64_in _ (by constructor <;> omega)
      have HQ := Lib.hid q1
      have HJ := Lib.hid (show j + 1 + (gk - 1) = 21 ∧ gk - 1 < gk by omega)
      clear hlt hj q1 q2 q3
      go_wp2
      go_roundg (gk - 1)
      case rel => exact ⟨rfl, j + 1, P * 2, by rw [w1_], by go_num, HJ.out.1, HQ⟩
      case measure => exact HJ.out.2
    · have g0 : ¬ (j : Int) ≤ 20 := by omega
      have g1 : decide ((j : Int) ≤ 20) = false := by simpa using g0
      clear hlt hj
      go_wp2
      go_ret
      exact ⟨rfl, rfl⟩

set_option maxRecDepth 100000 in
theorem r14power_yes (n : Int) (sh : Nat) (hsh : sh < 21) (h : n = ((2 ^ sh : Nat) : Int)) (w : World) :
    Calls Tryz.prog 125 #[.int .i64 n] w fun e w' => e = .returned (.bool true) ∧ w' = w := by
  have H := Lib.hid h
  have HS := Lib.hid hsh
  clear h hsh
  go_enter Tryz.func125, Tryz.ntmps125
  go_wp2
  go_loopg [3, 4] 21 (fun gh pv iv wr => wr = w ∧ ∃ (j : Nat) (P : Int), pv = .int .i64 P ∧ iv = .int .i64 j ∧ j + gh = 21 ∧ Hid (P = ((2 ^ j : Nat) : Int)) ∧ Hid (j ≤ sh))
  case atStart => exact ⟨rfl, 0, 1, rfl, rfl, rfl, Lib.hid rfl, Lib.hid (Nat.zero_le _)⟩
  case round =>
    obtain ⟨hw, j, P, rfl, rfl, hj, HP, HL⟩ := hrel
    subst hw
    have hlt : j ≤ 20 := by have := HL.out; have := HS.out; omega
    have g0 : (j : Int) ≤ 20 := by omega
    obtain ⟨q1, q2, q3⟩ := pow_step HP.out hlt
    have w1_ : wrap64 (P * 2) = P * 2 := IntWalk.wrap64_in _ (by constructor <;> omega)
    have HQ := Lib.hid q1
    have HJ := Lib.hid (show j + 1 + (gk - 1) = 21 ∧ gk - 1 < gk by omega)
    by_cases he : P = n
    · have g1 : (P == n) = true := by simpa using he
      clear hlt hj q1 q2 q3 he
      go_wp2
      go_ret
      exact ⟨rfl, rfl⟩
    · have g1 : (P == n) = false := by simpa using he
      have HL2 := Lib.hid (show j + 1 ≤ sh by
        by_cases h1 : j = sh
        · subst h1; exact absurd (HP.out.trans H.out.symm) he
        · have := HL.out; omega)
      clear hlt hj q1 q2 q3 he
      go_wp2
      go_roundg (gk - 1)
      case rel => exact ⟨rfl, j + 1, P * 2, by rw [w1_], by go_num, HJ.out.1, HQ, HL2⟩
      case measure => exact HJ.out.2

section
variable {c c' : Nat → Nat} {w w' : World} {p tp : Nat} {now : Int} {dl : List Tm} {l : List One} {ro : Option Addr} {rcap : Nat} {R : List DR}
theorem r14add_kind (p : Nat) (w : World) (n kd : Int) (hk : kd < 0 ∨ 1 < kd) :
    Calls Tryz.prog 89 #[.pointer (some ⟨p, 0, none⟩), .int .i64 n, .int .i64 kd] w fun e w' => e = .returned (.int .i64 1) ∧ w' = w := by
  have t : decide (kd < 0) = true ∨ (decide (kd < 0) = false ∧ decide ((1 : Int) < kd) = true) := by
    simp only [decide_eq_true_eq, decide_eq_false_iff_not]; omega
  clear hk
  rcases t with g0 | ⟨g0, g1⟩
  all_goals
    go_enter Tryz.func89, Tryz.ntmps89
    go_wp2
    go_ret
    exact ⟨rfl, rfl⟩
theorem r14add_size (p : Nat) (w : World) (n kd : Int) (hk : 0 ≤ kd ∧ kd ≤ 1) (hn : NoPow n) :
    Calls Tryz.prog 89 #[.pointer (some ⟨p, 0, none⟩), .int .i64 n, .int .i64 kd] w fun e w' => e = .returned (.int .i64 7) ∧ w' = w := by
  have g0 : decide (kd < 0) = false := by simp; omega
  have g1 : decide ((1 : Int) < kd) = false := by simp; omega
  clear hk
  go_enter Tryz.func89, Tryz.ntmps89
  go_wp2_with fail
  refine (r14power_no n hn w).mono ?_
  rintro e w1 ⟨rfl, hw⟩
  subst hw
  go_wp2
  go_ret
  exact ⟨rfl, rfl⟩
theorem r14add_many (h : DWR c w p tp now dl l ro rcap R) (n kd : Int) (hk : 0 ≤ kd ∧ kd ≤ 1) {sh : Nat} (hsh : sh < 21) (hn : n = ((2 ^ sh : Nat) : Int)) (hR : 8 ≤ R.length) :
    Calls Tryz.prog 89 #[.pointer (some ⟨p, 0, none⟩), .int .i64 n, .int .i64 kd] w fun e w' => e = .returned (.int .i64 8) ∧ w' = w := by
  obtain ⟨r4, lp⟩ := h.r4
  have g0 : decide (kd < 0) = false := by simp; omega
  have g1 : decide ((1 : Int) < kd) = false := by simp; omega
  have g2 : (8 : Int) ≤ (R.length : Int) := by omega
  have HP := Lib.hid (r14power_yes n sh hsh hn w)
  clear h hk hn hsh hR
  go_enter Tryz.func89, Tryz.ntmps89
  go_wp2_with fail
  refine HP.out.mono ?_
  rintro e w1 ⟨rfl, hw⟩
  subst hw
  go_wp2
  go_ret
  exact ⟨rfl, rfl⟩
end
end Go.Proofs.YtiphdedfbafhkaaGreatDoor

namespace Go.Proofs.YtiphdedfbafhkaaGreatDoor
open Go.RowKit

section
variable {P : Program} {ops : Array Oper} {o : Oper} {a : Act} {w : World} {K : Act → World → Prop} {Q : Exit → Act → World → Prop} {E : Prop}
theorem fill_1 (v : Value) (hv : v.cells = #[v]) (C : Array Value) (hC : C.size = 1) : Instr.fill (fun i => some (i * 1, 1)) C [(0, v)] = some #[v] := by
  obtain ⟨l⟩ := C
  match l, hC with
  | [_], _ => simp [Instr.fill, hv]
theorem fill_9 (v0 v1 v2 v3 v4 v5 v6 v7 v8 : Value) (C : Array Value) (hC : C.size = 9) : Instr.fill (fun i => some (i * 9, 9)) C [(0, .agg #[v0, v1, v2, v3, v4, v5, v6, v7, v8])] = some #[v0, v1, v2, v3, v4, v5, v6, v7, v8] := by
  obtain ⟨l⟩ := C
  match l, hC with
  | [_, _, _, _, _, _, _, _, _], _ => simp [Instr.fill, Value.cells]
/-- A new array of one value of some cells, as a step of a drawn region. -/
theorem step_bsV (hg : o.guard = none) (t e : TypeId) (x : Operand) (ho : o.op = .buildSlice t 1 #[(0, x)]) (z : Value) (n bytes : Nat) (hu : P.underlying t = some (.slice e)) (hinfo : (P.info? e).map (fun i => (i.zero, i.size, i.bytes)) = some (some z, n, bytes)) (hn0 : 0 < n) (hn1 : n ≤ 100)
    {v : Value} {vs : Array Value} (hf : ∀ C : Array Value, C.size = n → Instr.fill (fun i => some (i * n, n)) C [(0, v)] = some vs) (hx : a.eval x = v) (hK : K (a.put o.dst (.slice (some ⟨w.heap.size, 0, none⟩) 1 1)) (w.alloc (.cells vs e))) :
    if Region.wanted o (yielded ops a.tmps) = true then Oper.wp P o a w K Q else E := by
  have hw : Region.wanted o (yielded ops a.tmps) = true := by simp [Region.wanted, hg]
  rw [if_pos hw]
  obtain ⟨i, hi, hz, hsize, hby⟩ := info_parts hinfo
  have hs : i.size = n := by omega
  refine wp_buildSlice t e 1 #[(0, x)] ho _ i z hu hi hz (by rw [hs]; omega) (by rw [hs]; omega) ?_ hK
  rw [hs]
  have he : ((#[(0, x)] : Array (Nat × Operand)).map fun (i, x) => (i, a.eval x)).toList = [(0, v)] := by simp [hx]
  rw [he]
  exact hf _ (by simp)
end

theorem Tryz.infoInt91 : (Tryz.prog.info? 3).map (fun i => (i.zero, i.size, i.bytes)) = some (some (.int .i64 0), 1, 8) := by kernel_rfl
section
variable {c c' : Nat → Nat} {w w' : World} {p tp : Nat} {now : Int} {dl dl' : List Tm} {l l' : List One} {ro : Option Addr} {rcap : Nat} {R : List DR} {i : Nat} {d d' : DR} {a b : Addr}
theorem DWs.r4 {rs : Value} (h : DWs c w p tp now dl l rs) : w.cell? ⟨p, 4, none⟩ = some rs ∧ p < w.heap.size ∧ w.frozen? ⟨p, 4, none⟩ = false ∧ c p = 7 := by
  obtain ⟨k, lo, lcap, -, h⟩ := h
  exact ⟨h.cells.2.2.2.2.1, h.cells.2.2.2.2.2, h.hb.free 4, h.hb.1⟩
theorem row_cell8 (hr : Row c 12 w 178 9 (some a) R.length rcap (R.flatMap DR.cells)) (hd : R[i]? = some d) : w.cell? ⟨(a.add (i * 9)).block, (a.add (i * 9)).off + 8, none⟩ = some (.slice d.wo d.wl.length d.wcap) ∧ w.frozen? ⟨(a.add (i * 9)).block, (a.add (i * 9)).off + 8, none⟩ = false ∧ (a.add (i * 9)).block < w.heap.size := by
  have hx : (R.flatMap DR.cells)[i * 9 + 8]? = some (.slice d.wo d.wl.length d.wcap) := by
    rw [flat_get DR.cells 9 DR.len 8 (by decide) R i d hd]
    rfl
  obtain ⟨a', ha', hs, hcell, hf, ea, hk⟩ := hr.cell hx
  cases ha'
  rw [ea] at hf hcell
  rw [add_flat hs (i * 9)]
  have hc : w.cell? ⟨a.block, a.off + i * 9 + 8, none⟩ = some (.slice d.wo d.wl.length d.wcap) := by simpa [Nat.add_assoc] using hcell
  exact ⟨hc, by simpa [Nat.add_assoc] using hf, World.block_lt_of_cell? w ⟨a.block, a.off + i * 9 + 8, none⟩ hc⟩
/-- A ring's own slices are others, then one of its cells is set. -/
theorem DWR.put2 {J : Nat → Prop} {c2 : Nat → Nat} {w2 : World} (h : DWR c w p tp now dl l (some a) rcap R) (hd : R[i]? = some d) (t : Stp J c c2 w w2) (hJ : ∀ j, J j → j = dk i ∨ j = dk i + 1) {f : Nat} {v u : Value} (hf : d.cells[f]? = some u) (he : d'.cells = d.cells.set f v)
    (hr : Row c2 (dk i) w2 2 1 d'.so d'.shown.length d'.scap (d'.shown.map (Value.int .i64)) ∧ Row c2 (dk i + 1) w2 3 1 d'.wo d'.wl.length d'.wcap (d'.wl.map (Value.int .i64))) :
    Stp (fun j => J j ∨ j = 12) c c2 w (w2.setCell ⟨(a.add (i * 9)).block, (a.add (i * 9)).off + f, none⟩ v) ∧ DWR c2 (w2.setCell ⟨(a.add (i * 9)).block, (a.add (i * 9)).off + f, none⟩ v) p tp now dl l (some a) rcap (R.set i d') := by
  have hrow0 := h.rs.rr.stp t (fun q => by have := hJ _ q; unfold dk at this; omega)
  have hi : i < R.length := (List.getElem?_eq_some_iff.1 hd).1
  have hf9 : f < 9 := by have := (List.getElem?_eq_some_iff.1 hf).1; rw [DR.len] at this; exact this
  obtain ⟨a', ha', hs, hcell, -, -, hc⟩ := hrow0.cell (j := i * 9 + f) (v := u) (by rw [flat_get DR.cells 9 DR.len f hf9 R i d hd]; exact hf)
  cases ha'
  have ea := add_flat hs (i * 9)
  rw [ea]
  have t2 : Stp (· = 12) c2 c2 w2 (w2.setCell ⟨a.block, a.off + i * 9 + f, none⟩ v) := (Stp.refl (· = 12) c2 w2).setCell (p := ⟨a.block, a.off + i * 9 + f, none⟩) v hc
  refine ⟨(t.mono (fun _ h => .inl h)).trans (t2.mono (fun _ h => .inr h)), ?_, ?_, ?_⟩
  · have := (h.wd.stp t (fun j hj => by have := hJ j hj; unfold dk at this; unfold JD; omega)).stp t2 (fun j hj => by unfold JD; omega)
    rw [List.length_set]
    exact this
  · rw [List.length_set]
    obtain ⟨b, off, sp⟩ := a
    simp only at hs
    subst hs
    have hx : i * 9 + f < (R.flatMap DR.cells).length := by
      rw [flat_len DR.cells 9 DR.len]
      omega
    have hrow := hrow0.set (i * 9 + f) v hx
    rw [flat_set DR.cells 9 DR.len f hf9 v R i d d' hd he] at hrow
    simpa [Nat.add_assoc] using hrow
  · intro j y hy
    by_cases hj : i = j
    · subst hj
      rw [List.getElem?_set_self hi] at hy
      cases hy
      exact ⟨hr.1.stp t2 (by unfold dk; omega), hr.2.stp t2 (by unfold dk; omega)⟩
    · rw [List.getElem?_set_ne hj] at hy
      exact ⟨((h.rs.sh j y hy).1.stp t (fun q => by have := hJ _ q; unfold dk at this; omega)).stp t2 (by unfold dk; omega), ((h.rs.sh j y hy).2.stp t (fun q => by have := hJ _ q; unfold dk at this; omega)).stp t2 (by unfold dk; omega)⟩
/-- What the region loads. -/
def S91 (p i N rcap n wcap : Nat) (a : Addr) (wo : Option Addr) (w : World) : Prop := w.cell? ⟨p, 4, none⟩ = some (.slice (some a) N rcap) ∧ w.cell? ⟨(a.add (i * 9)).block, (a.add (i * 9)).off + 8, none⟩ = some (.slice wo n wcap)
theorem s91 {J : Nat → Prop} (h : DWR c w p tp now dl l (some a) rcap R) (hd : R[i]? = some d) (t : Stp J c c' w w') (hJ : ∀ j, J j → j = dk i + 1) : S91 p i R.length rcap d.wl.length d.wcap a d.wo w' :=
  ⟨(h.wd.stp t (fun j hj => by have := hJ j hj; unfold dk at this; unfold JD; omega)).r4.1, (row_cell8 (h.rs.rr.stp t (fun q => by have := hJ _ q; unfold dk at this; omega)) hd).1⟩
end

noncomputable def Tryz.cenl91 : Code := (Tryz.f91.body.bind (regionN 11)).getD .skip

set_option maxRecDepth 1000000 in
set_option maxHeartbeats 100000000 in
theorem Tryz.renl91 {p tp rcap i : Nat} {who now : Int} {dl : List Tm} {l : List One} {R : List DR} {d : DR} {a : Addr} {c9 : Nat → Nat} {w9 : World}
    (HD : Hid (DWR c9 w9 p tp now dl l (some a) rcap R)) (HI : Hid (R[i]? = some d)) (i0 : (0 : Int) ≤ (i : Int)) (i1 : (i : Int) < (R.length : Int)) (b63 : Hid (d.wl.length + 1 ≤ maxLen)) (bby : Hid ((d.wl.length + 1) * 8 ≤ 140737488355328)) {fr3 fr4 fr5 fr6 fr7 fr8 fr9 fr10 fr11 fr12 fr13 fr14 fr15 fr16 fr17 fr18 fr19 fr20 fr21 fr22 fr23 fr24 fr25 fr26 fr27 fr28 fr29 fr30 fr31 fr32 fr33 fr34 fr35 fr36 fr37 fr38 fr39 fr40 fr41 fr42 fr43 fr44 fr45 fr46 fr47 fr48 fr49 fr50 fr51 fr52 fr53 fr54 fr55 fr56 fr57 fr58 fr59 fr60 fr61 fr62 fr63 fr64 fr65 fr66 fr67 fr68 fr69 : Value} {Q0 : Exit → Act → World → Prop}
    (hQ : ∀ (ao' : Option Addr) (cap' : Nat) (c' : Nat → Nat) (wx : World), ∀ g52 g53 g54 g55 g56 g57 g58 g59 g60 g61 g62 g63 g64 g65 g66 g67 g68 g69 : Value, Hid (Stp (· = dk i + 1) c9 c' w9 wx) → Hid (Row c' (dk i + 1) wx 3 1 ao' (d.wl.length + 1) cap' (d.wl.map (Value.int .i64) ++ [.int .i64 who])) → Q0 .normal ⟨#[.pointer (some ⟨p, 0, none⟩), .int .i64 (i : Int), .int .i64 who, fr3, fr4, fr5, fr6, fr7, fr8, fr9, fr10, fr11, fr12, fr13, fr14, fr15, fr16, fr17, fr18, fr19, fr20, fr21, fr22, fr23, fr24, fr25, fr26, fr27, fr28, fr29, fr30, fr31, fr32, fr33, fr34, fr35, fr36, fr37, fr38, fr39, fr40, fr41, fr42, fr43, fr44, fr45, fr46, fr47, fr48, fr49, fr50, fr51, g52, g53, g54, g55, g56, g57, g58, g59, g60, g61, g62, g63, g64, g65, g66, g67, g68, g69], []⟩ (wx.setCell ⟨(a.add (i * 9)).block, (a.add (i * 9)).off + 8, none⟩ (.slice ao' (d.wl.length + 1) cap'))) : Code.wp Tryz.prog Tryz.cenl91 Q0 ⟨#[.pointer (some ⟨p, 0, none⟩), .int .i64 (i : Int), .int .i64 who, fr3, fr4, fr5, fr6, fr7, fr8, fr9, fr10, fr11, fr12, fr13, fr14, fr15, fr16, fr17, fr18, fr19, fr20, fr21, fr22, fr23, fr24, fr25, fr26, fr27, fr28, fr29, fr30, fr31, fr32, fr33, fr34, fr35, fr36, fr37, fr38, fr39, fr40, fr41, fr42, fr43, fr44, fr45, fr46, fr47, fr48, fr49, fr50, fr51, fr52, fr53, fr54, fr55, fr56, fr57, fr58, fr59, fr60, fr61, fr62, fr63, fr64, fr65, fr66, fr67, fr68, fr69], []⟩ w9 := by
  conv => arg 2; whnf
  refine wp_region_noPanic ?_
  have HQ := Lib.hid hQ
  clear hQ
  have T0 := Lib.hid ((Stp.refl (fun _ => False) c9 w9).drew)
  refine wp_region_till (S := S91 p i R.length rcap d.wl.length d.wcap a d.wo) (f := 18) (by kernel_rfl) ?_
  have hS := Lib.hid (s91 HD.out HI.out T0.out (fun _ h => h.elim))
  generalize w9.drew = wq0 at T0 hS ⊢
  refine wpTill_takeL (i := 0) (v := ?_) (l := [0]) rfl (by kernel_rfl) (by kernel_rfl) (by kernel_rfl) (by kernel_rfl) (by kernel_rfl) (by rfl) (fun _ _ _ h => h) (Or.inl ⟨by rfl, ?_⟩) hS.out ?_
  rotate_left
  · intro wy hSy
    clear hSy
    go_simp
    try with_reducible rfl
  try simp only [Act.put, List.setIfInBounds_toArray, List.set_cons_zero, List.set_cons_succ]
  refine wpTill_takeL (i := 1) (v := ?_) (l := [1]) rfl (by kernel_rfl) (by kernel_rfl) (by kernel_rfl) (by kernel_rfl) (by kernel_rfl) (by rfl) (fun _ _ _ h => h) (Or.inl ⟨by rfl, ?_⟩) hS.out ?_
  rotate_left
  · intro wy hSy
    clear hSy
    go_simp
    try with_reducible rfl
  try simp only [Act.put, List.setIfInBounds_toArray, List.set_cons_zero, List.set_cons_succ]
  refine wpTill_takeL (i := 2) (v := ?_) (l := [2]) rfl (by kernel_rfl) (by kernel_rfl) (by kernel_rfl) (by kernel_rfl) (by kernel_rfl) (by rfl) (fun _ _ _ h => h) (Or.inl ⟨by rfl, ?_⟩) hS.out ?_
  rotate_left
  · intro wy hSy
    clear hSy
    go_simp
    try with_reducible rfl
  try simp only [Act.put, List.setIfInBounds_toArray, List.set_cons_zero, List.set_cons_succ]
  refine wpTill_takeL (i := 3) (v := ?_) (l := [3]) rfl (by kernel_rfl) (by kernel_rfl) (by kernel_rfl) (by kernel_rfl) (by kernel_rfl) (by rfl) (fun _ _ _ h => h) (Or.inl ⟨by rfl, ?_⟩) hS.out ?_
  rotate_left
  · intro wy hSy
    obtain ⟨s4, s8⟩ := hSy
    go_simp
    try with_reducible rfl
  try simp only [Act.put, List.setIfInBounds_toArray, List.set_cons_zero, List.set_cons_succ]
  refine wpTill_takeL (i := 4) (v := ?_) (l := [4]) rfl (by kernel_rfl) (by kernel_rfl) (by kernel_rfl) (by kernel_rfl) (by kernel_rfl) (by rfl) (fun _ _ _ h => h) (Or.inl ⟨by rfl, ?_⟩) hS.out ?_
  rotate_left
  · intro wy hSy
    clear hSy
    go_simp
    try with_reducible rfl
  try simp only [Act.put, List.setIfInBounds_toArray, List.set_cons_zero, List.set_cons_succ]
  refine wpTill_takeL (i := 5) (v := ?_) (l := [5]) rfl (by kernel_rfl) (by kernel_rfl) (by kernel_rfl) (by kernel_rfl) (by kernel_rfl) (by rfl) (fun _ _ _ h => h) (Or.inl ⟨by rfl, ?_⟩) hS.out ?_
  rotate_left
  · intro wy hSy
    clear hSy
    go_simp
    try with_reducible rfl
  try simp only [Act.put, List.setIfInBounds_toArray, List.set_cons_zero, List.set_cons_succ]
  refine wpTill_takeL (i := 6) (v := ?_) (l := [6]) rfl (by kernel_rfl) (by kernel_rfl) (by kernel_rfl) (by kernel_rfl) (by kernel_rfl) (by rfl) (fun _ _ _ h => h) (Or.inl ⟨by rfl, ?_⟩) hS.out ?_
  rotate_left
  · intro wy hSy
    clear hSy
    go_simp
    try with_reducible rfl
  try simp only [Act.put, List.setIfInBounds_toArray, List.set_cons_zero, List.set_cons_succ]
  refine wpTill_takeL (i := 7) (v := ?_) (l := [7]) rfl (by kernel_rfl) (by kernel_rfl) (by kernel_rfl) (by kernel_rfl) (by kernel_rfl) (by rfl) (fun _ _ _ h => h) (Or.inl ⟨by rfl, ?_⟩) hS.out ?_
  rotate_left
  · intro wy hSy
    clear hSy
    go_simp
    try with_reducible rfl
  try simp only [Act.put, List.setIfInBounds_toArray, List.set_cons_zero, List.set_cons_succ]
  refine wpTill_takeL (i := 8) (v := ?_) (l := [8]) rfl (by kernel_rfl) (by kernel_rfl) (by kernel_rfl) (by kernel_rfl) (by kernel_rfl) (by rfl) (fun _ _ _ h => h) (Or.inl ⟨by rfl, ?_⟩) hS.out ?_
  rotate_left
  · intro wy hSy
    obtain ⟨s4, s8⟩ := hSy
    go_simp
    try with_reducible rfl
  try simp only [Act.put, List.setIfInBounds_toArray, List.set_cons_zero, List.set_cons_succ]
  refine wpTill_takeL (i := 9) (v := ?_) (l := [9]) rfl (by kernel_rfl) (by kernel_rfl) (by kernel_rfl) (by kernel_rfl) (by kernel_rfl) (by rfl) (fun _ _ _ h => h) (Or.inl ⟨by rfl, ?_⟩) hS.out ?_
  rotate_left
  · intro wy hSy
    clear hSy
    go_simp
    try with_reducible rfl
  try simp only [Act.put, List.setIfInBounds_toArray, List.set_cons_zero, List.set_cons_succ]
  refine wpTill_takeL (i := 10) (v := ?_) (l := [10]) rfl (by kernel_rfl) (by kernel_rfl) (by kernel_rfl) (by kernel_rfl) (by kernel_rfl) (by rfl) (fun _ _ _ h => h) (Or.inl ⟨by rfl, ?_⟩) hS.out ?_
  rotate_left
  · intro wy hSy
    clear hSy
    go_simp
    try with_reducible rfl
  try simp only [Act.put, List.setIfInBounds_toArray, List.set_cons_zero, List.set_cons_succ]
  refine wpTill_takeL (i := 11) (v := ?_) (l := [11]) rfl (by kernel_rfl) (by kernel_rfl) (by kernel_rfl) (by kernel_rfl) (by kernel_rfl) (by rfl) (fun _ _ _ h => h) (Or.inl ⟨by rfl, ?_⟩) hS.out ?_
  rotate_left
  · intro wy hSy
    clear hSy
    go_simp
    try with_reducible rfl
  try simp only [Act.put, List.setIfInBounds_toArray, List.set_cons_zero, List.set_cons_succ]
  refine wpTill_takeL (i := 12) (v := ?_) (l := [12]) rfl (by kernel_rfl) (by kernel_rfl) (by kernel_rfl) (by kernel_rfl) (by kernel_rfl) (by rfl) (fun _ _ _ h => h) (Or.inl ⟨by rfl, ?_⟩) hS.out ?_
  rotate_left
  · intro wy hSy
    obtain ⟨s4, s8⟩ := hSy
    go_simp
    try with_reducible rfl
  try simp only [Act.put, List.setIfInBounds_toArray, List.set_cons_zero, List.set_cons_succ]
  refine wpTill_takeL (i := 13) (v := ?_) (l := [13]) rfl (by kernel_rfl) (by kernel_rfl) (by kernel_rfl) (by kernel_rfl) (by kernel_rfl) (by rfl) (fun _ _ _ h => h) (Or.inl ⟨by rfl, ?_⟩) hS.out ?_
  rotate_left
  · intro wy hSy
    clear hSy
    go_simp
    try with_reducible rfl
  try simp only [Act.put, List.setIfInBounds_toArray, List.set_cons_zero, List.set_cons_succ]
  refine wpTill_ready (rs := [14]) (by kernel_rfl) (by simp) (AllTill.consL rfl (fun K hK => ?_) AllTill.nil)
  obtain ⟨c1, hc1, t1⟩ := (T0.out.alloc (.cells #[.int .i64 who] 3) (dk i + 1)).name
  refine step_bsV rfl 29 3 (.tmp 65) rfl (.int .i64 0) 1 8 Tryz.underlying29 Tryz.infoInt91 (by decide) (by decide) (v := .int .i64 who) (fill_1 _ rfl) rfl ?_
  obtain ⟨xb, hxb⟩ : ∃ x, x = wq0.heap.size := ⟨_, rfl⟩
  have SR := Lib.hid (show Src (wq0.alloc (.cells #[.int .i64 who] 3)) 1 (.slice (some ⟨xb, 0, none⟩) 1 1) 1 [.int .i64 who] by rw [hxb]; exact Src.new wq0 1 1 [.int .i64 who] 3 rfl)
  rw [← hxb]
  clear hc1
  generalize wq0.alloc (.cells #[.int .i64 who] 3) = wq1 at t1 SR ⊢
  clear hxb
  refine hK.out _ _ (fun _ => s91 HD.out HI.out t1.out (fun _ h => h.elim)) ?_
  clear hK K hS
  have hS := Lib.hid (s91 HD.out HI.out t1.out (fun _ h => h.elim))
  try simp only [Act.put, List.setIfInBounds_toArray, List.set_cons_zero, List.set_cons_succ]
  refine wpTill_ready (rs := [15]) (by kernel_rfl) (by simp) (AllTill.consL rfl (fun K hK => ?_) AllTill.nil)
  refine step_row rfl (.tmp 64) (.tmp 66) 29 rfl c1 (dk i + 1) 3 (.int .i64 0) 1 8 Tryz.underlying29 Tryz.infoInt91 rfl d.wo d.wl.length d.wcap (d.wl.map (Value.int .i64)) rfl ((HD.out.rs.sh i d HI.out).2.stp t1.out id) _ 1 [.int .i64 who] rfl SR.out (by simp [Value.oneCell']) b63.out bby.out ?_
  intro ao' cap' wq2 r2 st2 _
  obtain ⟨c2, hc2, t2⟩ := ((t1.out.mono (J' := (· = dk i + 1)) (fun _ h => h.elim)).trans st2).name
  rw [← hc2.out] at r2
  clear hc2 st2
  have R2 := Lib.hid r2
  clear r2
  refine hK.out _ _ (fun _ => s91 HD.out HI.out t2.out (fun _ h => h)) ?_
  clear hK K hS
  have hS := Lib.hid (s91 HD.out HI.out t2.out (fun _ h => h))
  try simp only [Act.put, List.setIfInBounds_toArray, List.set_cons_zero, List.set_cons_succ]
  refine wpTill_takeL (i := 16) (v := ?_) (l := [17, 16]) rfl (by kernel_rfl) (by kernel_rfl) (by kernel_rfl) (by kernel_rfl) (by kernel_rfl) (by rfl) (fun _ _ _ h => h) (Or.inl ⟨by rfl, ?_⟩) hS.out ?_
  rotate_left
  · intro wy hSy
    clear hSy
    go_simp
    try with_reducible rfl
  try simp only [Act.put, List.setIfInBounds_toArray, List.set_cons_zero, List.set_cons_succ]
  refine wpTill_takeL (i := 17) (v := ?_) (l := [17]) rfl (by kernel_rfl) (by kernel_rfl) (by kernel_rfl) (by kernel_rfl) (by kernel_rfl) (by rfl) (fun _ _ _ h => h) (Or.inl ⟨by rfl, ?_⟩) hS.out ?_
  rotate_left
  · intro wy hSy
    clear hSy
    go_simp
    try with_reducible rfl
  try simp only [Act.put, List.setIfInBounds_toArray, List.set_cons_zero, List.set_cons_succ]
  refine wpTill_ready (rs := [18]) (by kernel_rfl) (by simp) (AllTill.consL rfl (fun K hK => ?_) AllTill.nil)
  obtain ⟨m1, m2, m3⟩ := row_cell8 (HD.out.rs.rr.stp t2.out (by unfold dk; omega)) HI.out
  go_simp
  refine hK.out _ _ (fun h => absurd rfl h) ?_
  clear hK K
  refine wpTill_done (by kernel_rfl) ?_ _
  exact HQ.out ao' cap' c2 _ _ _ _ _ _ _ _ _ _ _ _ _ _ _ _ _ _ _ (Lib.hid t2.out) R2

section
variable {c c' : Nat → Nat} {w w' : World} {p tp : Nat} {now : Int} {dl dl' : List Tm} {l l' : List One} {ro : Option Addr} {rcap : Nat} {R : List DR} {i : Nat} {d d' : DR} {a b : Addr}
set_option maxRecDepth 100000 in
set_option maxHeartbeats 2000000 in
theorem r14enlist_new (h : DWR c w p tp now dl l ro rcap R) (hd : R[i]? = some d) (who : Int) (hw : wrongAt l who = 0) (hy : who ∉ d.wl) (hlen : d.wl.length ≤ 100) :
    Calls Tryz.prog 91 #[.pointer (some ⟨p, 0, none⟩), .int .i64 (i : Int), .int .i64 who] w fun e w' => e = .returned (.int .i64 0) ∧ ∃ ao' cap' c', Stp (fun j => j = dk i + 1 ∨ j = 12) c c' w w' ∧ DWR c' w' p tp now dl l ro rcap (R.set i { d with wl := d.wl ++ [who], wo := ao', wcap := cap' }) := by
  obtain ⟨r4, lp⟩ := h.r4
  obtain ⟨a, rfl, -, -, -, -, -, -, -, -, k8⟩ := h.ringA hd
  obtain ⟨i0, i1⟩ := h.lt hd
  have g0 : decide ((i : Int) < 0) = false := by simp
  have g1 : decide (R.length ≤ i) = false := by simp; omega
  have H := Lib.hid h
  have HD := Lib.hid hd
  have HWZ := Lib.hid hw
  have HY := Lib.hid hy
  obtain ⟨N, hN⟩ : ∃ N, N = d.wl.length := ⟨_, rfl⟩
  obtain ⟨wo, hwo⟩ : ∃ x, x = d.wo := ⟨_, rfl⟩
  have HN := Lib.hid hN
  have HWO := Lib.hid hwo
  have HN1 := Lib.hid (show N ≤ 100 by omega)
  rw [← hN, ← hwo] at k8
  clear h hd hw hy hlen hN hwo
  go_enter Tryz.func91, Tryz.ntmps91
  go_wp2_with fail
  refine (H.out.wd.wrong who).mono ?_
  rintro e w1 ⟨rfl, hw1⟩
  subst hw1
  rw [HWZ.out]
  go_wp2
  go_loopg [8] N (fun gh iv wr => wr = w ∧ ∃ j : Nat, iv = .int .i64 j ∧ j + gh = N)
  case atStart => exact ⟨rfl, 0, rfl, by omega⟩
  case round =>
    obtain ⟨hw, j, rfl, hj⟩ := hrel
    subst hw
    by_cases hlt : j < N
    · have hjl : j < d.wl.length := by rw [← HN.out]; exact hlt
      obtain ⟨b, hb, y0⟩ := ((H.out.rs.sh i d HD.out).2.toIn).ints (j := j) hjl
      have hb' : wo = some b := by rw [HWO.out]; exact hb
      subst hb'
      have hyn : d.wl.getD j 0 ≠ who := by
        intro e
        apply HY.out
        rw [← e]
        simp [List.getD, hjl]
      obtain ⟨y, hy⟩ : ∃ y, y = d.wl.getD j 0 := ⟨_, rfl⟩
      rw [← hy] at y0 hyn
      have hj9 : j ≤ 100 := by have := HN1.out; omega
      have g3 : (j : Int) < (N : Int) := by omega
      have HJ := Lib.hid (show j + 1 + (gk - 1) = N ∧ gk - 1 < gk by omega)
      have g5 : (y == who) = false := by simpa using hyn
      clear hyn hy hjl hlt hj hb
      go_wp2
      go_roundg (gk - 1)
      case rel => exact ⟨rfl, j + 1, by go_num, HJ.out.1⟩
      case measure => exact HJ.out.2
    · have g3 : ¬ (j : Int) < (N : Int) := by omega
      have g4 : decide ((j : Int) < (N : Int)) = false := by simpa using g3
      clear hlt hj
      go_wp2_with fail
      refine Tryz.renl91 (i := i) (d := d) (R := R) H HD i0 i1 (Lib.hid (by have := HN1.out; have := HN.out; unfold maxLen; omega)) (Lib.hid (by have := HN1.out; have := HN.out; omega)) ?_
      intro ao' cap' c' wx g0 g1 g2 g3 g4 g5 g6 g7 g8 g9 g10 g11 g12 g13 g14 g15 g16 g17 hT hR
      obtain ⟨P1, P2⟩ := H.out.put2 (d' := { d with wl := d.wl ++ [who], wo := ao', wcap := cap' }) (f := 8) (u := .slice d.wo d.wl.length d.wcap) (v := .slice ao' (d.wl.length + 1) cap') HD.out hT.out (fun _ h => .inr h) rfl (by simp [DR.cells]) ⟨(H.out.rs.sh i d HD.out).1.stp hT.out (by unfold dk; omega), by simpa using hR.out⟩
      have HP := Lib.hid (And.intro P1 P2)
      clear P1 P2 hT hR
      go_wp2
      go_ret
      exact ⟨rfl, ao', cap', c', HP.out.1, HP.out.2⟩

/-- Enlist of whoever. -/
theorem r14enlist_any (h : DWR c w p tp now dl l ro rcap R) (hd : R[i]? = some d) (who : Int) (hlen : d.wl.length ≤ 100) :
    Calls Tryz.prog 91 #[.pointer (some ⟨p, 0, none⟩), .int .i64 (i : Int), .int .i64 who] w fun e w' => e = .returned (.int .i64 (enlT l d.wl who).2) ∧ ∃ ao' cap' c', Stp (fun j => j = dk i + 1 ∨ j = 12) c c' w w' ∧ DWR c' w' p tp now dl l ro rcap (R.set i { d with wl := (enlT l d.wl who).1, wo := ao', wcap := cap' }) := by
  have same : DWR c w p tp now dl l ro rcap (R.set i { d with wl := d.wl, wo := d.wo, wcap := d.wcap }) := by
    have e : R.set i { d with wl := d.wl, wo := d.wo, wcap := d.wcap } = R := by
      apply List.ext_getElem?
      intro j
      by_cases hj : i = j
      · subst hj
        rw [List.getElem?_set_self (List.getElem?_eq_some_iff.1 hd).1, hd]
      · rw [List.getElem?_set_ne hj]
    rw [e]; exact h
  unfold enlT
  by_cases hw : wrongAt l who = 0
  · rw [if_neg (by simp [hw])]
    by_cases hy : who ∈ d.wl
    · rw [if_pos hy]
      refine (r14enlist_there h hd who hw hy hlen).mono ?_
      rintro e w1 ⟨rfl, rfl⟩
      exact ⟨rfl, _, _, c, Stp.refl _ _ _, same⟩
    · rw [if_neg hy]
      refine (r14enlist_new h hd who hw hy hlen).mono ?_
      rintro e w1 ⟨rfl, a1, a2, c1, t1, h1⟩
      exact ⟨rfl, a1, a2, c1, t1, h1⟩
  · rw [if_pos hw]
    refine (r14enlist_wrong h hd who hw).mono ?_
    rintro e w1 ⟨rfl, rfl⟩
    exact ⟨rfl, _, _, c, Stp.refl _ _ _, same⟩
end
end Go.Proofs.YtiphdedfbafhkaaGreatDoor

namespace Go.Proofs.YtiphdedfbafhkaaGreatDoor
open Go.RowKit

theorem Tryz.infoRing89 : (Tryz.prog.info? 178).map (fun i => (i.zero, i.size, i.bytes)) = some (some (.agg #[.int .i64 0, .bool false, .int .i64 0, .int .i64 0, .int .i64 0, .slice none 0 0, .slice none 0 0, .slice none 0 0, .slice none 0 0]), 9, 136) := by kernel_rfl
theorem Tryz.infoI6489 : (Tryz.prog.info? 2).map (fun i => (i.zero, i.size, i.bytes)) = some (some (.int .i64 0), 1, 8) := by kernel_rfl
section
variable {c c' : Nat → Nat} {w w' : World} {p tp : Nat} {now : Int} {dl dl' : List Tm} {l l' : List One} {ro : Option Addr} {rcap : Nat} {R : List DR} {i : Nat} {d d' : DR} {a b : Addr}
theorem cl_9 {k p : Nat} {ty : TypeId} {v0 v1 v2 v3 v4 v5 v6 v7 v8 : Value} (h : Blk c k w p [v0, v1, v2, v3, v4, v5, v6, v7, v8] ty) : w.cell? ⟨p, 0, none⟩ = some v0 ∧ w.cell? ⟨p, 1, none⟩ = some v1 ∧ w.cell? ⟨p, 2, none⟩ = some v2 ∧ w.cell? ⟨p, 3, none⟩ = some v3 ∧ w.cell? ⟨p, 4, none⟩ = some v4 ∧ w.cell? ⟨p, 5, none⟩ = some v5 ∧ w.cell? ⟨p, 6, none⟩ = some v6 ∧ w.cell? ⟨p, 7, none⟩ = some v7 ∧ w.cell? ⟨p, 8, none⟩ = some v8 :=
  ⟨by simpa using h.cell 0, by simpa using h.cell 1, by simpa using h.cell 2, by simpa using h.cell 3, by simpa using h.cell 4, by simpa using h.cell 5, by simpa using h.cell 6, by simpa using h.cell 7, by simpa using h.cell 8⟩
theorem DWR.stpB {J : Nat → Prop} (h : DWR c w p tp now dl l ro rcap R) (t : Stp J c c' w w') (hJ : ∀ j, J j → ¬ JD j ∧ j ≠ 12 ∧ ∀ i, i < R.length → j ≠ dk i ∧ j ≠ dk i + 1) : DWR c' w' p tp now dl l ro rcap R :=
  ⟨h.wd.stp t (fun j hj => (hJ j hj).1), h.rs.rr.stp t (fun q => (hJ _ q).2.1 rfl), fun i d hd => ⟨(h.rs.sh i d hd).1.stp t (fun q => ((hJ _ q).2.2 i (List.getElem?_eq_some_iff.1 hd).1).1 rfl), (h.rs.sh i d hd).2.stp t (fun q => ((hJ _ q).2.2 i (List.getElem?_eq_some_iff.1 hd).1).2 rfl)⟩⟩
theorem DWs.setRs {rs : Value} (h : DWs c w p tp now dl l rs) (rs' : Value) : Stp (· = 7) c c w (w.setCell ⟨p, 4, none⟩ rs') ∧ DWs c (w.setCell ⟨p, 4, none⟩ rs') p tp now dl l rs' := by
  obtain ⟨k, lo, lcap, hk, h⟩ := h
  have t : Stp (· = 7) c c w (w.setCell ⟨p, 4, none⟩ rs') := (Stp.refl (· = 7) c w).setCell (p := ⟨p, 4, none⟩) rs' h.hb.1
  exact ⟨t, k, lo, lcap, hk, h.hb.set 4 rs', h.tm.stp t (by omega), h.tb.stp t (by decide) (by decide) (by decide) (by decide)⟩
/-- One ring more. -/
theorem DWR.grow {J : Nat → Prop} {c2 : Nat → Nat} {w2 : World} {ro' : Option Addr} {rcap' : Nat} (h : DWR c w p tp now dl l ro rcap R) (t : Stp J c c2 w w2) (hJ : ∀ j, J j → j = dk R.length ∨ j = 12)
    (hr : Row c2 12 w2 178 9 ro' (R.length + 1) rcap' (R.flatMap DR.cells ++ d.cells)) (hs : Row c2 (dk R.length) w2 2 1 d.so d.shown.length d.scap (d.shown.map (Value.int .i64))) (hw : d.wl = []) (hwo : d.wo = none) (hwc : d.wcap = 0) :
    Stp (fun j => J j ∨ j = 7) c c2 w (w2.setCell ⟨p, 4, none⟩ (.slice ro' (R.length + 1) rcap')) ∧ DWR c2 (w2.setCell ⟨p, 4, none⟩ (.slice ro' (R.length + 1) rcap')) p tp now dl l ro' rcap' (R ++ [d]) := by
  have hw2 := h.wd.stp t (fun j hj => by have := hJ j hj; unfold dk at this; unfold JD; omega)
  obtain ⟨t2, hw3⟩ := hw2.setRs (.slice ro' (R.length + 1) rcap')
  refine ⟨(t.mono (fun _ h => .inl h)).trans (t2.mono (fun _ h => .inr h)), ?_, ?_, ?_⟩
  · simpa using hw3
  · have := hr.stp t2 (by decide)
    simpa using this
  · intro j y hy
    by_cases hj : j < R.length
    · rw [List.getElem?_append_left hj] at hy
      exact ⟨((h.rs.sh j y hy).1.stp t (fun q => by have := hJ _ q; unfold dk at this; omega)).stp t2 (by unfold dk; omega), ((h.rs.sh j y hy).2.stp t (fun q => by have := hJ _ q; unfold dk at this; omega)).stp t2 (by unfold dk; omega)⟩
    · have hlt := (List.getElem?_eq_some_iff.1 hy).1
      simp at hlt
      obtain rfl : j = R.length := by omega
      simp at hy
      subst hy
      refine ⟨hs.stp t2 (by unfold dk; omega), ?_⟩
      rw [hw, hwo, hwc]
      exact Row.nil _ _ _ _ _
def S89 (p xb N rcap : Nat) (ro : Option Addr) (v0 v1 v2 v3 v4 v5 v6 v7 v8 : Value) (w : World) : Prop := w.cell? ⟨p, 4, none⟩ = some (.slice ro N rcap) ∧ w.cell? ⟨xb, 0, none⟩ = some v0 ∧ w.cell? ⟨xb, 1, none⟩ = some v1 ∧ w.cell? ⟨xb, 2, none⟩ = some v2 ∧ w.cell? ⟨xb, 3, none⟩ = some v3 ∧ w.cell? ⟨xb, 4, none⟩ = some v4 ∧ w.cell? ⟨xb, 5, none⟩ = some v5 ∧ w.cell? ⟨xb, 6, none⟩ = some v6 ∧ w.cell? ⟨xb, 7, none⟩ = some v7 ∧ w.cell? ⟨xb, 8, none⟩ = some v8
theorem s89 {J : Nat → Prop} {xb : Nat} {ty : TypeId} {v0 v1 v2 v3 v4 v5 v6 v7 v8 : Value} (h : DWR c w p tp now dl l ro rcap R) (X : Blk c 0 w xb [v0, v1, v2, v3, v4, v5, v6, v7, v8] ty) (t : Stp J c c' w w') (hJ : ∀ j, J j → j = 12) : S89 p xb R.length rcap ro v0 v1 v2 v3 v4 v5 v6 v7 v8 w' :=
  ⟨(h.wd.stp t (fun j hj => by have := hJ j hj; unfold JD; omega)).r4.1, cl_9 (X.stp t (fun q => by have := hJ _ q; omega))⟩
end

noncomputable def Tryz.cadd89 : Code := (Tryz.f89.body.bind (regionN 12)).getD .skip

set_option maxRecDepth 1000000 in
set_option maxHeartbeats 100000000 in
theorem Tryz.radd89 {p tp rcap xb m scap en ecap : Nat} {n now : Int} {b : Bool} {so ea : Option Addr} {dl : List Tm} {l : List One} {R : List DR} {ro : Option Addr} {c9 : Nat → Nat} {w9 : World}
    (HD : Hid (DWR c9 w9 p tp now dl l ro rcap R)) (X9 : Hid (Blk c9 0 w9 xb [.int .i64 n, .bool b, .int .i64 (-1), .int .i64 (-1), .int .i64 (-1), .slice so m scap, .slice ea en ecap, .slice none 0 0, .slice none 0 0] 178)) (b63 : Hid (R.length + 1 ≤ maxLen)) (bby : Hid ((R.length + 1) * 136 ≤ 140737488355328)) {fr1 fr2 fr3 fr4 fr5 fr6 fr8 fr9 fr10 fr11 fr12 fr13 fr14 fr15 fr16 fr17 fr18 fr19 fr20 fr21 fr22 fr23 fr24 fr25 fr26 fr27 fr28 fr29 fr30 fr31 fr32 fr33 fr34 fr35 fr36 fr37 fr38 fr39 fr40 fr41 fr42 fr43 fr44 fr45 fr46 fr47 fr48 fr49 : Value} {Q0 : Exit → Act → World → Prop}
    (hQ : ∀ (ao' : Option Addr) (cap' : Nat) (c' : Nat → Nat) (wx : World), ∀ g40 g41 g42 g43 g44 g45 g46 g47 g48 g49 : Value, Hid (Stp (· = 12) c9 c' w9 wx) → Hid (Row c' 12 wx 178 9 ao' (R.length + 1) cap' (R.flatMap DR.cells ++ [.int .i64 n, .bool b, .int .i64 (-1), .int .i64 (-1), .int .i64 (-1), .slice so m scap, .slice ea en ecap, .slice none 0 0, .slice none 0 0])) → Q0 .normal ⟨#[.pointer (some ⟨p, 0, none⟩), fr1, fr2, fr3, fr4, fr5, fr6, .pointer (some ⟨xb, 0, none⟩), fr8, fr9, fr10, fr11, fr12, fr13, fr14, fr15, fr16, fr17, fr18, fr19, fr20, fr21, fr22, fr23, fr24, fr25, fr26, fr27, fr28, fr29, fr30, fr31, fr32, fr33, fr34, fr35, fr36, fr37, fr38, fr39, g40, g41, g42, g43, g44, g45, g46, g47, g48, g49], []⟩ (wx.setCell ⟨p, 4, none⟩ (.slice ao' (R.length + 1) cap'))) : Code.wp Tryz.prog Tryz.cadd89 Q0 ⟨#[.pointer (some ⟨p, 0, none⟩), fr1, fr2, fr3, fr4, fr5, fr6, .pointer (some ⟨xb, 0, none⟩), fr8, fr9, fr10, fr11, fr12, fr13, fr14, fr15, fr16, fr17, fr18, fr19, fr20, fr21, fr22, fr23, fr24, fr25, fr26, fr27, fr28, fr29, fr30, fr31, fr32, fr33, fr34, fr35, fr36, fr37, fr38, fr39, fr40, fr41, fr42, fr43, fr44, fr45, fr46, fr47, fr48, fr49], []⟩ w9 := by
  conv => arg 2; whnf
  refine wp_region_noPanic ?_
  have HQ := Lib.hid hQ
  clear hQ
  have T0 := Lib.hid ((Stp.refl (fun _ => False) c9 w9).drew)
  refine wp_region_till (S := S89 p xb R.length rcap ro (.int .i64 n) (.bool b) (.int .i64 (-1)) (.int .i64 (-1)) (.int .i64 (-1)) (.slice so m scap) (.slice ea en ecap) (.slice none 0 0) (.slice none 0 0)) (f := 10) (by kernel_rfl) ?_
  have hS := Lib.hid (s89 HD.out X9.out T0.out (fun _ h => h.elim))
  generalize w9.drew = wq0 at T0 hS ⊢
  refine wpTill_takeL (i := 0) (v := ?_) (l := [0]) rfl (by kernel_rfl) (by kernel_rfl) (by kernel_rfl) (by kernel_rfl) (by kernel_rfl) (by rfl) (fun _ _ _ h => h) (Or.inl ⟨by rfl, ?_⟩) hS.out ?_
  rotate_left
  · intro wy hSy
    clear hSy
    go_simp
    try with_reducible rfl
  try simp only [Act.put, List.setIfInBounds_toArray, List.set_cons_zero, List.set_cons_succ]
  refine wpTill_takeL (i := 1) (v := ?_) (l := [1]) rfl (by kernel_rfl) (by kernel_rfl) (by kernel_rfl) (by kernel_rfl) (by kernel_rfl) (by rfl) (fun _ _ _ h => h) (Or.inl ⟨by rfl, ?_⟩) hS.out ?_
  rotate_left
  · intro wy hSy
    clear hSy
    go_simp
    try with_reducible rfl
  try simp only [Act.put, List.setIfInBounds_toArray, List.set_cons_zero, List.set_cons_succ]
  refine wpTill_takeL (i := 2) (v := ?_) (l := [2]) rfl (by kernel_rfl) (by kernel_rfl) (by kernel_rfl) (by kernel_rfl) (by kernel_rfl) (by rfl) (fun _ _ _ h => h) (Or.inl ⟨by rfl, ?_⟩) hS.out ?_
  rotate_left
  · intro wy hSy
    clear hSy
    go_simp
    try with_reducible rfl
  try simp only [Act.put, List.setIfInBounds_toArray, List.set_cons_zero, List.set_cons_succ]
  refine wpTill_takeL (i := 3) (v := ?_) (l := [3]) rfl (by kernel_rfl) (by kernel_rfl) (by kernel_rfl) (by kernel_rfl) (by kernel_rfl) (by rfl) (fun _ _ _ h => h) (Or.inl ⟨by rfl, ?_⟩) hS.out ?_
  rotate_left
  · intro wy hSy
    clear hSy
    go_simp
    try with_reducible rfl
  try simp only [Act.put, List.setIfInBounds_toArray, List.set_cons_zero, List.set_cons_succ]
  refine wpTill_takeL (i := 4) (v := ?_) (l := [4]) rfl (by kernel_rfl) (by kernel_rfl) (by kernel_rfl) (by kernel_rfl) (by kernel_rfl) (by rfl) (fun _ _ _ h => h) (Or.inl ⟨by rfl, ?_⟩) hS.out ?_
  rotate_left
  · intro wy hSy
    obtain ⟨s4, s0, s1, s2, s3, s5, s6, s7, s8, s9⟩ := hSy
    go_simp
    try with_reducible rfl
  try simp only [Act.put, List.setIfInBounds_toArray, List.set_cons_zero, List.set_cons_succ]
  refine wpTill_takeL (i := 5) (v := ?_) (l := [5]) rfl (by kernel_rfl) (by kernel_rfl) (by kernel_rfl) (by kernel_rfl) (by kernel_rfl) (by rfl) (fun _ _ _ h => h) (Or.inl ⟨by rfl, ?_⟩) hS.out ?_
  rotate_left
  · intro wy hSy
    obtain ⟨s4, s0, s1, s2, s3, s5, s6, s7, s8, s9⟩ := hSy
    go_simp
    try with_reducible rfl
  try simp only [Act.put, List.setIfInBounds_toArray, List.set_cons_zero, List.set_cons_succ]
  refine wpTill_ready (rs := [6]) (by kernel_rfl) (by simp) (AllTill.consL rfl (fun K hK => ?_) AllTill.nil)
  obtain ⟨c1, hc1, t1⟩ := (T0.out.alloc (.cells #[.int .i64 n, .bool b, .int .i64 (-1), .int .i64 (-1), .int .i64 (-1), .slice so m scap, .slice ea en ecap, .slice none 0 0, .slice none 0 0] 178) 12).name
  refine step_bsV rfl 156 178 (.tmp 45) rfl (.agg #[.int .i64 0, .bool false, .int .i64 0, .int .i64 0, .int .i64 0, .slice none 0 0, .slice none 0 0, .slice none 0 0, .slice none 0 0]) 9 136 Tryz.underlying156 Tryz.infoRing89 (by decide) (by decide) (v := .agg #[.int .i64 n, .bool b, .int .i64 (-1), .int .i64 (-1), .int .i64 (-1), .slice so m scap, .slice ea en ecap, .slice none 0 0, .slice none 0 0]) (fill_9 _ _ _ _ _ _ _ _ _) rfl ?_
  obtain ⟨yb, hyb⟩ : ∃ x, x = wq0.heap.size := ⟨_, rfl⟩
  have SR := Lib.hid (show Src (wq0.alloc (.cells #[.int .i64 n, .bool b, .int .i64 (-1), .int .i64 (-1), .int .i64 (-1), .slice so m scap, .slice ea en ecap, .slice none 0 0, .slice none 0 0] 178)) 9 (.slice (some ⟨yb, 0, none⟩) 1 1) 1 [.int .i64 n, .bool b, .int .i64 (-1), .int .i64 (-1), .int .i64 (-1), .slice so m scap, .slice ea en ecap, .slice none 0 0, .slice none 0 0] by rw [hyb]; exact Src.new wq0 9 1 [.int .i64 n, .bool b, .int .i64 (-1), .int .i64 (-1), .int .i64 (-1), .slice so m scap, .slice ea en ecap, .slice none 0 0, .slice none 0 0] 178 rfl)
  rw [← hyb]
  clear hc1
  generalize wq0.alloc (.cells #[.int .i64 n, .bool b, .int .i64 (-1), .int .i64 (-1), .int .i64 (-1), .slice so m scap, .slice ea en ecap, .slice none 0 0, .slice none 0 0] 178) = wq1 at t1 SR ⊢
  clear hyb
  refine hK.out _ _ (fun _ => s89 HD.out X9.out t1.out (fun _ h => h.elim)) ?_
  clear hK K hS
  have hS := Lib.hid (s89 HD.out X9.out t1.out (fun _ h => h.elim))
  try simp only [Act.put, List.setIfInBounds_toArray, List.set_cons_zero, List.set_cons_succ]
  refine wpTill_ready (rs := [7]) (by kernel_rfl) (by simp) (AllTill.consL rfl (fun K hK => ?_) AllTill.nil)
  refine step_row rfl (.tmp 44) (.tmp 46) 156 rfl c1 12 178 (.agg #[.int .i64 0, .bool false, .int .i64 0, .int .i64 0, .int .i64 0, .slice none 0 0, .slice none 0 0, .slice none 0 0, .slice none 0 0]) 9 136 Tryz.underlying156 Tryz.infoRing89 rfl ro R.length rcap (R.flatMap DR.cells) rfl (HD.out.rs.rr.stp t1.out id) _ 1 [.int .i64 n, .bool b, .int .i64 (-1), .int .i64 (-1), .int .i64 (-1), .slice so m scap, .slice ea en ecap, .slice none 0 0, .slice none 0 0] rfl SR.out (by simp [Value.oneCell']) b63.out bby.out ?_
  intro ao' cap' wq2 r2 st2 _
  obtain ⟨c2, hc2, t2⟩ := ((t1.out.mono (J' := (· = 12)) (fun _ h => h.elim)).trans st2).name
  rw [← hc2.out] at r2
  clear hc2 st2
  have R2 := Lib.hid r2
  clear r2
  refine hK.out _ _ (fun _ => s89 HD.out X9.out t2.out (fun _ h => h)) ?_
  clear hK K hS
  have hS := Lib.hid (s89 HD.out X9.out t2.out (fun _ h => h))
  try simp only [Act.put, List.setIfInBounds_toArray, List.set_cons_zero, List.set_cons_succ]
  refine wpTill_takeL (i := 8) (v := ?_) (l := [9, 8]) rfl (by kernel_rfl) (by kernel_rfl) (by kernel_rfl) (by kernel_rfl) (by kernel_rfl) (by rfl) (fun _ _ _ h => h) (Or.inl ⟨by rfl, ?_⟩) hS.out ?_
  rotate_left
  · intro wy hSy
    clear hSy
    go_simp
    try with_reducible rfl
  try simp only [Act.put, List.setIfInBounds_toArray, List.set_cons_zero, List.set_cons_succ]
  refine wpTill_takeL (i := 9) (v := ?_) (l := [9]) rfl (by kernel_rfl) (by kernel_rfl) (by kernel_rfl) (by kernel_rfl) (by kernel_rfl) (by rfl) (fun _ _ _ h => h) (Or.inl ⟨by rfl, ?_⟩) hS.out ?_
  rotate_left
  · intro wy hSy
    clear hSy
    go_simp
    try with_reducible rfl
  try simp only [Act.put, List.setIfInBounds_toArray, List.set_cons_zero, List.set_cons_succ]
  refine wpTill_ready (rs := [10]) (by kernel_rfl) (by simp) (AllTill.consL rfl (fun K hK => ?_) AllTill.nil)
  obtain ⟨m1, m2, m3, m4⟩ := (HD.out.wd.stp t2.out (fun j hj => by unfold JD; omega)).r4
  go_simp
  refine hK.out _ _ (fun h => absurd rfl h) ?_
  clear hK K
  refine wpTill_done (by kernel_rfl) ?_ _
  exact HQ.out ao' cap' c2 _ _ _ _ _ _ _ _ _ _ _ (Lib.hid t2.out) R2

section
variable {c c' : Nat → Nat} {w w' : World} {p tp : Nat} {now : Int} {dl dl' : List Tm} {l l' : List One} {ro : Option Addr} {rcap : Nat} {R : List DR} {i : Nat} {d d' : DR} {a b : Addr}
set_option maxRecDepth 100000 in
set_option maxHeartbeats 4000000 in
theorem r14add_ok (h : DWR c w p tp now dl l ro rcap R) {n kd : Int} {b : Bool} (hk : kd = 0 ∧ b = false ∨ kd = 1 ∧ b = true) {sh : Nat} (hsh : sh < 21) {N : Nat} (hN : N = 2 ^ sh) (hn : n = (N : Int)) (hR : R.length < 8) :
    Calls Tryz.prog 89 #[.pointer (some ⟨p, 0, none⟩), .int .i64 n, .int .i64 kd] w fun e w' => e = .returned (.int .i64 0) ∧ ∃ ro' rcap' so scap eb, ∃ c', Stp (fun j => j = dk R.length ∨ j = 12 ∨ j = 7) c c' w w' ∧ DWR c' w' p tp now dl l ro' rcap' (R ++ [⟨n, b, -1, -1, -1, so, scap, List.replicate N (-1), some ⟨eb, 0, none⟩, N, N, none, 0, []⟩]) := by
  obtain ⟨r4, lp⟩ := h.r4
  have hb := pow_le20 sh hsh
  rw [← hN] at hb
  have b1 := hb.1
  have b2 := hb.2
  have g0 : decide (kd < 0) = false := by simp; omega
  have g1 : decide ((1 : Int) < kd) = false := by simp; omega
  have g2 : decide ((8 : Int) ≤ (R.length : Int)) = false := by simp; omega
  have g2' : decide (8 ≤ R.length) = false := by simp; omega
  have g3 : (kd == 1) = b := by
    rcases hk with ⟨rfl, rfl⟩ | ⟨rfl, rfl⟩ <;> rfl
  obtain ⟨i0, hi, hz0, hz1, hz2⟩ := info_parts Tryz.infoEv
  have hmk : ∀ wx : World, (Instr.makeSlice 138 (.int .i64 (N : Int)) (.int .i64 (N : Int))).run Tryz.prog wx = .ok (.slice (some ⟨wx.heap.size, 0, none⟩) N N) (wx.alloc (.cells (madeCells #[.int .i64 0, .int .i64 0] (N * 2)) 80)) := fun wx => by
    have := run_make (P := Tryz.prog) wx 138 80 i0 (.agg #[.int .i64 0, .int .i64 0]) Tryz.underlying138 hi hz0 .i64 .i64 N N (by omega) (Int.le_refl _) (by rw [hz2]; omega) (by omega)
    rw [hz1, show (Value.agg #[.int .i64 0, .int .i64 0]).cells = #[.int .i64 0, .int .i64 0] from rfl] at this
    simpa using this
  have HP := Lib.hid (r14power_yes n sh hsh (by rw [hn, hN]) w)
  have H := Lib.hid h
  have HN := Lib.hid hn
  have HB := Lib.hid b2
  have HR := Lib.hid hR
  obtain ⟨eb, heb⟩ : ∃ x, x = w.heap.size := ⟨_, rfl⟩
  have HEB := Lib.hid (show w.heap.size ≤ eb + 1 by omega)
  obtain ⟨c1, hc1, t1⟩ := ((Stp.refl (fun _ => False) c w).alloc (.cells (madeCells #[.int .i64 0, .int .i64 0] (N * 2)) 80) 0).name
  obtain ⟨c2, hc2, t2⟩ := (t1.out.alloc (.cells #[.int .i64 (N : Int), .bool b, .int .i64 (-1), .int .i64 (-1), .int .i64 (-1), .slice none 0 0, .slice (some ⟨eb, 0, none⟩) N N, .slice none 0 0, .slice none 0 0] 178) 0).name
  have X2 := Lib.hid (show Blk c2 0 ((w.alloc (.cells (madeCells #[.int .i64 0, .int .i64 0] (N * 2)) 80)).alloc (.cells #[.int .i64 (N : Int), .bool b, .int .i64 (-1), .int .i64 (-1), .int .i64 (-1), .slice none 0 0, .slice (some ⟨eb, 0, none⟩) N N, .slice none 0 0, .slice none 0 0] 178)) (eb + 1) [.int .i64 (N : Int), .bool b, .int .i64 (-1), .int .i64 (-1), .int .i64 (-1), .slice none 0 0, .slice (some ⟨eb, 0, none⟩) N N, .slice none 0 0, .slice none 0 0] 178 by rw [hc2.out, heb]; simpa using Blk.new c1 0 (w.alloc (.cells (madeCells #[.int .i64 0, .int .i64 0] (N * 2)) 80)) [.int .i64 (N : Int), .bool b, .int .i64 (-1), .int .i64 (-1), .int .i64 (-1), .slice none 0 0, .slice (some ⟨w.heap.size, 0, none⟩) N N, .slice none 0 0, .slice none 0 0] 178)
  have T2 := Lib.hid t2.out
  clear h hk hsh hN hi hz0 hz1 hz2 hb hc1 hc2 t1 t2 hR
  rw [hn] at *
  go_enter Tryz.func89, Tryz.ntmps89
  go_wp2_with fail
  refine HP.out.mono ?_
  rintro e w1 ⟨rfl, hw⟩
  subst hw
  go_upto_region 8 with fail
  simp only [← heb]
  generalize (w1.alloc (.cells (madeCells #[.int .i64 0, .int .i64 0] (N * 2)) 80)).alloc (.cells #[.int .i64 (N : Int), .bool b, .int .i64 (-1), .int .i64 (-1), .int .i64 (-1), .slice none 0 0, .slice (some ⟨eb, 0, none⟩) N N, .slice none 0 0, .slice none 0 0] 178) = w2 at X2 T2 ⊢
  clear heb r4
  go_wp2
  go_loopg [8] N (fun gh iv wr => ∃ (j : Nat) (so : Option Addr) (scap : Nat) (c3 : Nat → Nat), iv = .int .i64 j ∧ j + gh = N ∧ Hid (Blk c3 0 wr (eb + 1) [.int .i64 (N : Int), .bool b, .int .i64 (-1), .int .i64 (-1), .int .i64 (-1), .slice so j scap, .slice (some ⟨eb, 0, none⟩) N N, .slice none 0 0, .slice none 0 0] 178) ∧ Hid (Row c3 (dk R.length) wr 2 1 so j scap ((List.replicate j (-1 : Int)).map (Value.int .i64))) ∧ Hid (Stp (· = dk R.length) c c3 w1 wr))
  case atStart => exact ⟨0, none, 0, c2, rfl, by omega, X2, Lib.hid (Row.nil _ _ _ _ _), Lib.hid (T2.out.mono (fun _ h => h.elim))⟩
  case round =>
    obtain ⟨j, so, scap, c3, rfl, hj, X3, R3, S3⟩ := hrel
    clear X2 T2
    by_cases hlt : j < N
    · obtain ⟨x0, x1, x2, x3, x4, x5, x6, x7, x8⟩ := cl_9 X3.out
      have d1 : Hid (j + 1 ≤ maxLen) := Lib.hid (by have := HB.out; unfold maxLen; omega)
      have d2 : Hid ((j + 1) * 8 ≤ 140737488355328) := Lib.hid (by have := HB.out; omega)
      have hj9 : j ≤ 1048576 := by have := HB.out; omega
      have HJ := Lib.hid (show j + 1 + (gk - 1) = N ∧ gk - 1 < gk by omega)
      clear hj
      go_wp2_with (at_builtin; refine wpList_append_row _ rfl (.tmp 36) (.tmp 37) 125 rfl (paint c3 wr.heap.size (dk R.length)) (dk R.length) 2 (.int .i64 0) 1 8 Tryz.underlying125 Tryz.infoI6489 rfl so j scap ((List.replicate j (-1 : Int)).map (Value.int .i64)) rfl (R3.out.alloc _ _) (.slice (some ⟨wr.heap.size, 0, none⟩) 1 1) 1 [.int .i64 (-1)] rfl (Src.new wr 1 1 [.int .i64 (-1)] 2 rfl) (by simp [Value.oneCell']) d1.out d2.out ?_)
      intro so2 scap2 w4 r4 st4 _
      obtain ⟨c4, hc4, t4⟩ := (((Stp.refl (· = dk R.length) c3 wr).alloc (.cells #[.int .i64 (-1)] 2) (dk R.length)).trans st4).name
      rw [← hc4.out] at r4
      have X4 := Lib.hid (X3.out.stp t4.out (by unfold dk; omega))
      have R4 := Lib.hid r4
      have S4 := Lib.hid (S3.out.trans t4.out)
      clear x0 x1 x2 x3 x4 x5 x6 x7 x8 r4 st4 hc4 t4
      obtain ⟨x0, x1, x2, x3, x4, x5, x6, x7, x8⟩ := cl_9 X4.out
      have f5 := X4.out.free 5
      have l5 := X4.out.lt
      go_wp2
      go_roundg (gk - 1)
      case rel => exact ⟨j + 1, so2, scap2, c4, by go_num, HJ.out.1, Lib.hid (X4.out.set 5 (.slice so2 (j + 1) scap2)), Lib.hid (by
        have := R4.out.stp ((Stp.refl (· = 0) c4 w4).setCell (p := ⟨eb + 1, 5, none⟩) (.slice so2 (j + 1) scap2) X4.out.1) (by unfold dk; omega)
        rw [List.replicate_succ', List.map_append]
        simpa using this), Lib.hid (S4.out.setNew (p := ⟨eb + 1, 5, none⟩) (.slice so2 (j + 1) scap2) HEB.out)⟩
      case measure => exact HJ.out.2
    · obtain rfl : j = N := by omega
      have D3 := Lib.hid (H.out.stpB S3.out (fun q hq => by subst hq; exact ⟨by unfold dk JD; omega, by unfold dk; omega, fun i hi => by unfold dk; omega⟩))
      have HRR := HR.out
      clear hj
      go_wp2_with fail
      refine Tryz.radd89 (R := R) D3 X3 (Lib.hid (by unfold maxLen; omega)) (Lib.hid (by omega)) ?_
      intro ro' rcap' c5 wx g0 g1 g2 g3 g4 g5 g6 g7 g8 g9 hT hR5
      obtain ⟨P1, P2⟩ := D3.out.grow (d := ⟨(j : Int), b, -1, -1, -1, so, scap, List.replicate j (-1), some ⟨eb, 0, none⟩, j, j, none, 0, []⟩) hT.out (fun _ h => .inr h) (by simpa [DR.cells] using hR5.out) (by simpa using R3.out.stp hT.out (by unfold dk; omega)) rfl rfl rfl
      have HP2 := Lib.hid P2
      have SP := Lib.hid ((S3.out.mono (J' := fun q => q = dk R.length ∨ q = 12 ∨ q = 7) (fun _ h => .inl h)).trans (P1.mono (fun _ h => .inr h)))
      clear P1 P2 hT hR5
      go_wp2
      go_ret
      exact ⟨rfl, ro', rcap', so, scap, eb, c5, SP.out, HP2.out⟩
end
end Go.Proofs.YtiphdedfbafhkaaGreatDoor

namespace Go.Proofs.YtiphdedfbafhkaaGreatDoor
open Go.RowKit

section
variable {c c' : Nat → Nat} {w w' : World} {p tp : Nat} {now : Int} {dl dl' : List Tm} {l l' : List One} {ro : Option Addr} {rcap : Nat} {R : List DR} {i : Nat} {d d' : DR} {a b : Addr}
theorem row_cellF (hr : Row c 12 w 178 9 (some a) R.length rcap (R.flatMap DR.cells)) (hd : R[i]? = some d) {f : Nat} {v : Value} (hf9 : f < 9) (hf : d.cells[f]? = some v) : w.frozen? ⟨(a.add (i * 9)).block, (a.add (i * 9)).off + f, none⟩ = false := by
  obtain ⟨a', ha', hs, hcell, hz, ea, hk⟩ := hr.cell (j := i * 9 + f) (v := v) (by rw [flat_get DR.cells 9 DR.len f hf9 R i d hd]; exact hf)
  cases ha'
  rw [ea] at hz
  rw [add_flat hs (i * 9)]
  simpa [Nat.add_assoc] using hz
theorem bl_7 {k p : Nat} {ty : TypeId} {v0 v1 v2 v3 v4 v5 v6 : Value} (h : Blk c k w p [v0, v1, v2, v3, v4, v5, v6] ty) : w.cell? ⟨p, 0, none⟩ = some v0 ∧ w.cell? ⟨p, 1, none⟩ = some v1 ∧ w.cell? ⟨p, 2, none⟩ = some v2 ∧ w.cell? ⟨p, 3, none⟩ = some v3 ∧ w.cell? ⟨p, 4, none⟩ = some v4 ∧ w.cell? ⟨p, 5, none⟩ = some v5 ∧ w.cell? ⟨p, 6, none⟩ = some v6 ∧ p < w.heap.size :=
  ⟨by simpa using h.cell 0, by simpa using h.cell 1, by simpa using h.cell 2, by simpa using h.cell 3, by simpa using h.cell 4, by simpa using h.cell 5, by simpa using h.cell 6, h.lt⟩
theorem bf_7 {k p : Nat} {ty : TypeId} {v0 v1 v2 v3 v4 v5 v6 : Value} (h : Blk c k w p [v0, v1, v2, v3, v4, v5, v6] ty) : w.frozen? ⟨p, 0, none⟩ = false ∧ w.frozen? ⟨p, 1, none⟩ = false ∧ w.frozen? ⟨p, 2, none⟩ = false ∧ w.frozen? ⟨p, 3, none⟩ = false ∧ w.frozen? ⟨p, 4, none⟩ = false ∧ w.frozen? ⟨p, 5, none⟩ = false ∧ w.frozen? ⟨p, 6, none⟩ = false :=
  ⟨h.free 0, h.free 1, h.free 2, h.free 3, h.free 4, h.free 5, h.free 6⟩

theorem DWR.stp0 (h : DWR c w p tp now dl l ro rcap R) (t : Stp (· = 0) c c' w w') : DWR c' w' p tp now dl l ro rcap R :=
  ⟨h.wd.stp t (fun j hj => by unfold JD; omega), h.rs.stp t (by omega) (fun i => by unfold dk; omega)⟩
set_option maxRecDepth 100000 in
set_option maxHeartbeats 2000000 in
theorem r14judge_m (h : DWR c w p tp now dl l ro rcap R) (hd : R[i]? = some d) (hm : d.many = true) (n cl hi le : Int) (hv : wrap64 (hi - d.n) = hi - d.n) (hf : hi - d.n ≤ le) :
    Calls Tryz.prog 150 #[.pointer (some ⟨p, 0, none⟩), .agg #[.int .i64 (i : Int), .int .i64 n, .int .i64 2, .int .i64 cl, .int .i64 hi, .int .i64 le, .slice none 0 0]] w fun e w' => e = .returned (.agg #[.int .i64 (i : Int), .int .i64 n, .int .i64 3, .int .i64 cl, .int .i64 hi, .int .i64 le, .slice none 0 0]) ∧ ∃ c', Stp (fun _ => False) c c' w w' ∧ DWR c' w' p tp now dl l ro rcap R := by
  obtain ⟨i0, i1⟩ := h.lt hd
  have g1 : decide (le < hi - d.n) = false := by simp; omega
  obtain ⟨xb, hxb⟩ : ∃ x, x = w.heap.size := ⟨_, rfl⟩
  have HXB := Lib.hid (show w.heap.size ≤ xb by omega)
  obtain ⟨c1, hc1, t1⟩ := ((Stp.refl (fun _ => False) c w).alloc (.cells #[.int .i64 (i : Int), .int .i64 n, .int .i64 2, .int .i64 cl, .int .i64 hi, .int .i64 le, .slice none 0 0] 218) 0).name
  have X1 := (show Blk c1 0 (w.alloc (.cells #[.int .i64 (i : Int), .int .i64 n, .int .i64 2, .int .i64 cl, .int .i64 hi, .int .i64 le, .slice none 0 0] 218)) xb [.int .i64 (i : Int), .int .i64 n, .int .i64 2, .int .i64 cl, .int .i64 hi, .int .i64 le, .slice none 0 0] 218 by rw [hc1.out, hxb]; exact Blk.new c 0 w _ _)
  obtain ⟨c2, hc2, t2⟩ := ((Stp.refl (fun _ => False) c1 (w.alloc (.cells #[.int .i64 (i : Int), .int .i64 n, .int .i64 2, .int .i64 cl, .int .i64 hi, .int .i64 le, .slice none 0 0] 218))).alloc (.cells #[.int .i64 0, .int .i64 0, .int .i64 0, .int .i64 0, .int .i64 0, .int .i64 0, .slice none 0 0] 218) 0).name
  have Y2 := Lib.hid (show Blk c2 0 ((w.alloc (.cells #[.int .i64 (i : Int), .int .i64 n, .int .i64 2, .int .i64 cl, .int .i64 hi, .int .i64 le, .slice none 0 0] 218)).alloc (.cells #[.int .i64 0, .int .i64 0, .int .i64 0, .int .i64 0, .int .i64 0, .int .i64 0, .slice none 0 0] 218)) (xb + 1) [.int .i64 0, .int .i64 0, .int .i64 0, .int .i64 0, .int .i64 0, .int .i64 0, .slice none 0 0] 218 by rw [hc2.out, hxb]; simpa using Blk.new c1 0 (w.alloc (.cells #[.int .i64 (i : Int), .int .i64 n, .int .i64 2, .int .i64 cl, .int .i64 hi, .int .i64 le, .slice none 0 0] 218)) [.int .i64 0, .int .i64 0, .int .i64 0, .int .i64 0, .int .i64 0, .int .i64 0, .slice none 0 0] 218)
  have X2 := Lib.hid (X1.stp t2.out id)
  have T2 := Lib.hid (t1.out.trans t2.out)
  have H2 := Lib.hid (h.stpF T2.out)
  clear X1 hc1 hc2 t1 t2
  go_enter Tryz.func150, Tryz.ntmps150
  go_upto_region 1 with fail
  simp only [← hxb]
  generalize (w.alloc (.cells #[.int .i64 (i : Int), .int .i64 n, .int .i64 2, .int .i64 cl, .int .i64 hi, .int .i64 le, .slice none 0 0] 218)).alloc (.cells #[.int .i64 0, .int .i64 0, .int .i64 0, .int .i64 0, .int .i64 0, .int .i64 0, .slice none 0 0] 218) = w2 at X2 Y2 T2 H2 ⊢
  clear hxb
  obtain ⟨r4, lp⟩ := H2.out.r4
  obtain ⟨a, rfl, hs, -, k0, k1, k2, k3, k4, -⟩ := H2.out.ringA hd
  obtain ⟨x0, x1, x2, x3, x4, x5, x6, lx⟩ := bl_7 X2.out
  obtain ⟨f0, f1, f2, f3, f4, f5, f6⟩ := bf_7 X2.out
  obtain ⟨y0, y1, y2, y3, y4, y5, y6, ly⟩ := bl_7 Y2.out
  obtain ⟨e0, e1, e2, e3, e4, e5, e6⟩ := bf_7 Y2.out
  rw [hm] at k1
  have HYB : w.heap.size ≤ xb + 1 := by have := HXB.out; omega
  have SF := Lib.hid ((((((((((T2.out.setNew (p := ⟨xb, 2, none⟩) (.int .i64 3) HXB.out).setNew (p := ⟨xb + 1, 0, none⟩) (.int .i64 (i : Int)) HYB).setNew (p := ⟨xb + 1, 1, none⟩) (.int .i64 n) HYB).setNew (p := ⟨xb + 1, 2, none⟩) (.int .i64 3) HYB).setNew (p := ⟨xb + 1, 3, none⟩) (.int .i64 cl) HYB).setNew (p := ⟨xb + 1, 4, none⟩) (.int .i64 hi) HYB).setNew (p := ⟨xb + 1, 5, none⟩) (.int .i64 le) HYB).setNew (p := ⟨xb + 1, 6, none⟩) (.slice none 0 0) HYB).drew).drew)
  have HH := Lib.hid (h.stpF SF.out)
  clear h hd hm hf hs HYB H2 T2 X2 Y2 k2 k3 k4
  go_wp2
  go_region
  go_wp2
  go_region
  go_wp2
  refine bodyPost_ret (v := .agg #[.int .i64 (i : Int), .int .i64 n, .int .i64 3, .int .i64 cl, .int .i64 hi, .int .i64 le, .slice none 0 0]) (by clear SF HH HXB; simp [results, Tryz.results150, go_sem, *]) rfl ⟨rfl, c2, SF.out, HH.out⟩

set_option maxRecDepth 100000 in
set_option maxHeartbeats 2000000 in
theorem r14judge_sok (h : DWR c w p tp now dl l ro rcap R) (hd : R[i]? = some d) (hm : d.many = false) (n cl hi le : Int) (hv : wrap64 (hi - d.n) = hi - d.n) (hf : hi - d.n ≤ le) :
    Calls Tryz.prog 150 #[.pointer (some ⟨p, 0, none⟩), .agg #[.int .i64 (i : Int), .int .i64 n, .int .i64 2, .int .i64 cl, .int .i64 hi, .int .i64 le, .slice none 0 0]] w fun e w' => e = .returned (.agg #[.int .i64 (i : Int), .int .i64 n, .int .i64 5, .int .i64 cl, .int .i64 hi, .int .i64 le, .slice none 0 0]) ∧ ∃ c', Stp (· = 12) c c' w w' ∧ DWR c' w' p tp now dl l ro rcap (R.set i { d with seen := le, cl := hi }) := by
  obtain ⟨i0, i1⟩ := h.lt hd
  have g1 : decide (le < hi - d.n) = false := by simp; omega
  obtain ⟨xb, hxb⟩ : ∃ x, x = w.heap.size := ⟨_, rfl⟩
  have HXB := Lib.hid (show w.heap.size ≤ xb by omega)
  obtain ⟨c1, hc1, t1⟩ := ((Stp.refl (fun _ => False) c w).alloc (.cells #[.int .i64 (i : Int), .int .i64 n, .int .i64 2, .int .i64 cl, .int .i64 hi, .int .i64 le, .slice none 0 0] 218) 0).name
  have X1 := (show Blk c1 0 (w.alloc (.cells #[.int .i64 (i : Int), .int .i64 n, .int .i64 2, .int .i64 cl, .int .i64 hi, .int .i64 le, .slice none 0 0] 218)) xb [.int .i64 (i : Int), .int .i64 n, .int .i64 2, .int .i64 cl, .int .i64 hi, .int .i64 le, .slice none 0 0] 218 by rw [hc1.out, hxb]; exact Blk.new c 0 w _ _)
  obtain ⟨c2, hc2, t2⟩ := ((Stp.refl (fun _ => False) c1 (w.alloc (.cells #[.int .i64 (i : Int), .int .i64 n, .int .i64 2, .int .i64 cl, .int .i64 hi, .int .i64 le, .slice none 0 0] 218))).alloc (.cells #[.int .i64 0, .int .i64 0, .int .i64 0, .int .i64 0, .int .i64 0, .int .i64 0, .slice none 0 0] 218) 0).name
  have Y2 := Lib.hid (show Blk c2 0 ((w.alloc (.cells #[.int .i64 (i : Int), .int .i64 n, .int .i64 2, .int .i64 cl, .int .i64 hi, .int .i64 le, .slice none 0 0] 218)).alloc (.cells #[.int .i64 0, .int .i64 0, .int .i64 0, .int .i64 0, .int .i64 0, .int .i64 0, .slice none 0 0] 218)) (xb + 1) [.int .i64 0, .int .i64 0, .int .i64 0, .int .i64 0, .int .i64 0, .int .i64 0, .slice none 0 0] 218 by rw [hc2.out, hxb]; simpa using Blk.new c1 0 (w.alloc (.cells #[.int .i64 (i : Int), .int .i64 n, .int .i64 2, .int .i64 cl, .int .i64 hi, .int .i64 le, .slice none 0 0] 218)) [.int .i64 0, .int .i64 0, .int .i64 0, .int .i64 0, .int .i64 0, .int .i64 0, .slice none 0 0] 218)
  have X2 := Lib.hid (X1.stp t2.out id)
  have T2 := Lib.hid (t1.out.trans t2.out)
  have H2 := Lib.hid (h.stpF T2.out)
  clear X1 hc1 hc2 t1 t2
  go_enter Tryz.func150, Tryz.ntmps150
  go_upto_region 1 with fail
  simp only [← hxb]
  generalize (w.alloc (.cells #[.int .i64 (i : Int), .int .i64 n, .int .i64 2, .int .i64 cl, .int .i64 hi, .int .i64 le, .slice none 0 0] 218)).alloc (.cells #[.int .i64 0, .int .i64 0, .int .i64 0, .int .i64 0, .int .i64 0, .int .i64 0, .slice none 0 0] 218) = w2 at X2 Y2 T2 H2 ⊢
  clear hxb
  obtain ⟨r4, lp⟩ := H2.out.r4
  obtain ⟨a, rfl, hs, -, k0, k1, k2, k3, k4, -⟩ := H2.out.ringA hd
  obtain ⟨x0, x1, x2, x3, x4, x5, x6, lx⟩ := bl_7 X2.out
  obtain ⟨f0, f1, f2, f3, f4, f5, f6⟩ := bf_7 X2.out
  obtain ⟨y0, y1, y2, y3, y4, y5, y6, ly⟩ := bl_7 Y2.out
  obtain ⟨e0, e1, e2, e3, e4, e5, e6⟩ := bf_7 Y2.out
  rw [hm] at k1
  have HYB : w.heap.size ≤ xb + 1 := by have := HXB.out; omega
  have fz4 := row_cellF H2.out.rs.rr hd (f := 4) (by decide) rfl
  have fz2 := row_cellF H2.out.rs.rr hd (f := 2) (by decide) rfl
  have lb : (a.add (i * 9)).block < w.heap.size := by
    obtain ⟨a', ha', hb'⟩ : ∃ a', some a = some a' ∧ (a'.add (i * 9)).block < w.heap.size := by
      obtain ⟨a', ha', -, -, z0, -⟩ := h.ringA hd
      exact ⟨a', ha', World.block_lt_of_cell? w _ z0⟩
    cases ha'
    exact hb'
  have n1 : (a.add (i * 9)).block ≠ xb := by have := HXB.out; omega
  have n2 : (a.add (i * 9)).block ≠ xb + 1 := by have := HXB.out; omega
  have n3 : xb ≠ (a.add (i * 9)).block := Ne.symm n1
  have n4 : xb + 1 ≠ (a.add (i * 9)).block := Ne.symm n2
  have lr : (a.add (i * 9)).block < w2.heap.size := by have := T2.out.size; omega
  have P1 := H2.out.put (d' := { d with seen := le }) (f := 4) (v := .int .i64 le) (u := .int .i64 d.seen) hd rfl rfl (H2.out.rs.sh i d hd)
  have hd1 : (R.set i { d with seen := le })[i]? = some { d with seen := le } := List.getElem?_set_self (List.getElem?_eq_some_iff.1 hd).1
  have S1 := (T2.out.mono (J' := (· = 12)) (fun _ h => h.elim)).trans P1.1
  have q2 := ((Stp.refl (· = 0) c2 _).setCell (w := w2.setCell ⟨(a.add (i * 9)).block, (a.add (i * 9)).off + 4, none⟩ (.int .i64 le)) (p := ⟨xb, 2, none⟩) (.int .i64 5) X2.out.1)
  have D2 := P1.2.stp0 q2
  have S2 := S1.setNew (p := ⟨xb, 2, none⟩) (.int .i64 5) HXB.out
  obtain ⟨d1, ed1⟩ : ∃ d1 : DR, d1 = { d with seen := le } := ⟨_, rfl⟩
  rw [← ed1] at hd1 D2
  have P3 := D2.put (d' := { d with seen := le, cl := hi }) (f := 2) (v := .int .i64 hi) (u := .int .i64 d.cl) hd1 (by rw [ed1]; rfl) (by rw [ed1]; rfl) (by have := D2.rs.sh i _ hd1; rw [ed1] at this; exact this)
  have D3 := P3.2
  rw [List.set_set] at D3
  have S3 := S2.trans P3.1
  have D4 := D3.stp0 (((((((((Stp.refl (· = 0) c2 _).setCell (p := ⟨xb + 1, 0, none⟩) (.int .i64 (i : Int)) Y2.out.1).setCell (p := ⟨xb + 1, 1, none⟩) (.int .i64 n) Y2.out.1).setCell (p := ⟨xb + 1, 2, none⟩) (.int .i64 5) Y2.out.1).setCell (p := ⟨xb + 1, 3, none⟩) (.int .i64 cl) Y2.out.1).setCell (p := ⟨xb + 1, 4, none⟩) (.int .i64 hi) Y2.out.1).setCell (p := ⟨xb + 1, 5, none⟩) (.int .i64 le) Y2.out.1).setCell (p := ⟨xb + 1, 6, none⟩) (.slice none 0 0) Y2.out.1))
  have SF := Lib.hid (((((((((S3.setNew (p := ⟨xb + 1, 0, none⟩) (.int .i64 (i : Int)) HYB).setNew (p := ⟨xb + 1, 1, none⟩) (.int .i64 n) HYB).setNew (p := ⟨xb + 1, 2, none⟩) (.int .i64 5) HYB).setNew (p := ⟨xb + 1, 3, none⟩) (.int .i64 cl) HYB).setNew (p := ⟨xb + 1, 4, none⟩) (.int .i64 hi) HYB).setNew (p := ⟨xb + 1, 5, none⟩) (.int .i64 le) HYB).setNew (p := ⟨xb + 1, 6, none⟩) (.slice none 0 0) HYB).drew).drew)
  have HH := Lib.hid (D4.stpF ((Stp.refl (fun _ => False) c2 _).drew.drew))
  clear h hd hm hf hs HYB H2 T2 X2 Y2 k3 S1 S2 S3 q2 D2 D3 D4 P1 hd1 lb P3 ed1
  go_wp2
  go_region
  go_wp2
  go_region
  go_wp2
  refine bodyPost_ret (v := .agg #[.int .i64 (i : Int), .int .i64 n, .int .i64 5, .int .i64 cl, .int .i64 hi, .int .i64 le, .slice none 0 0]) (by clear SF HH HXB; simp [results, Tryz.results150, go_sem, *]) rfl ⟨rfl, c2, SF.out, HH.out⟩

set_option maxRecDepth 100000 in
set_option maxHeartbeats 2000000 in
theorem r14judge_sfull (h : DWR c w p tp now dl l ro rcap R) (hd : R[i]? = some d) (hm : d.many = false) (n cl hi le : Int) (hv : wrap64 (hi - d.n) = hi - d.n) (hf : le < hi - d.n) :
    Calls Tryz.prog 150 #[.pointer (some ⟨p, 0, none⟩), .agg #[.int .i64 (i : Int), .int .i64 n, .int .i64 2, .int .i64 cl, .int .i64 hi, .int .i64 le, .slice none 0 0]] w fun e w' => e = .returned (.agg #[.int .i64 (i : Int), .int .i64 n, .int .i64 6, .int .i64 cl, .int .i64 hi, .int .i64 le, .slice none 0 0]) ∧ ∃ c', Stp (· = 12) c c' w w' ∧ DWR c' w' p tp now dl l ro rcap (R.set i { d with seen := le }) := by
  obtain ⟨i0, i1⟩ := h.lt hd
  have g1 : decide (le < hi - d.n) = true := by simpa using hf
  obtain ⟨xb, hxb⟩ : ∃ x, x = w.heap.size := ⟨_, rfl⟩
  have HXB := Lib.hid (show w.heap.size ≤ xb by omega)
  obtain ⟨c1, hc1, t1⟩ := ((Stp.refl (fun _ => False) c w).alloc (.cells #[.int .i64 (i : Int), .int .i64 n, .int .i64 2, .int .i64 cl, .int .i64 hi, .int .i64 le, .slice none 0 0] 218) 0).name
  have X1 := (show Blk c1 0 (w.alloc (.cells #[.int .i64 (i : Int), .int .i64 n, .int .i64 2, .int .i64 cl, .int .i64 hi, .int .i64 le, .slice none 0 0] 218)) xb [.int .i64 (i : Int), .int .i64 n, .int .i64 2, .int .i64 cl, .int .i64 hi, .int .i64 le, .slice none 0 0] 218 by rw [hc1.out, hxb]; exact Blk.new c 0 w _ _)
  obtain ⟨c2, hc2, t2⟩ := ((Stp.refl (fun _ => False) c1 (w.alloc (.cells #[.int .i64 (i : Int), .int .i64 n, .int .i64 2, .int .i64 cl, .int .i64 hi, .int .i64 le, .slice none 0 0] 218))).alloc (.cells #[.int .i64 0, .int .i64 0, .int .i64 0, .int .i64 0, .int .i64 0, .int .i64 0, .slice none 0 0] 218) 0).name
  have Y2 := Lib.hid (show Blk c2 0 ((w.alloc (.cells #[.int .i64 (i : Int), .int .i64 n, .int .i64 2, .int .i64 cl, .int .i64 hi, .int .i64 le, .slice none 0 0] 218)).alloc (.cells #[.int .i64 0, .int .i64 0, .int .i64 0, .int .i64 0, .int .i64 0, .int .i64 0, .slice none 0 0] 218)) (xb + 1) [.int .i64 0, .int .i64 0, .int .i64 0, .int .i64 0, .int .i64 0, .int .i64 0, .slice none 0 0] 218 by rw [hc2.out, hxb]; simpa using Blk.new c1 0 (w.alloc (.cells #[.int .i64 (i : Int), .int .i64 n, .int .i64 2, .int .i64 cl, .int .i64 hi, .int .i64 le, .slice none 0 0] 218)) [.int .i64 0, .int .i64 0, .int .i64 0, .int .i64 0, .int .i64 0, .int .i64 0, .slice none 0 0] 218)
  have X2 := Lib.hid (X1.stp t2.out id)
  have T2 := Lib.hid (t1.out.trans t2.out)
  have H2 := Lib.hid (h.stpF T2.out)
  clear X1 hc1 hc2 t1 t2
  go_enter Tryz.func150, Tryz.ntmps150
  go_upto_region 1 with fail
  simp only [← hxb]
  generalize (w.alloc (.cells #[.int .i64 (i : Int), .int .i64 n, .int .i64 2, .int .i64 cl, .int .i64 hi, .int .i64 le, .slice none 0 0] 218)).alloc (.cells #[.int .i64 0, .int .i64 0, .int .i64 0, .int .i64 0, .int .i64 0, .int .i64 0, .slice none 0 0] 218) = w2 at X2 Y2 T2 H2 ⊢
  clear hxb
  obtain ⟨r4, lp⟩ := H2.out.r4
  obtain ⟨a, rfl, hs, -, k0, k1, k2, k3, k4, -⟩ := H2.out.ringA hd
  obtain ⟨x0, x1, x2, x3, x4, x5, x6, lx⟩ := bl_7 X2.out
  obtain ⟨f0, f1, f2, f3, f4, f5, f6⟩ := bf_7 X2.out
  obtain ⟨y0, y1, y2, y3, y4, y5, y6, ly⟩ := bl_7 Y2.out
  obtain ⟨e0, e1, e2, e3, e4, e5, e6⟩ := bf_7 Y2.out
  rw [hm] at k1
  have HYB := Lib.hid (show w.heap.size ≤ xb + 1 by have := HXB.out; omega)
  have fz4 := row_cellF H2.out.rs.rr hd (f := 4) (by decide) rfl
  have lb : (a.add (i * 9)).block < w.heap.size := by
    obtain ⟨a', ha', hb'⟩ : ∃ a', some a = some a' ∧ (a'.add (i * 9)).block < w.heap.size := by
      obtain ⟨a', ha', -, -, z0, -⟩ := h.ringA hd
      exact ⟨a', ha', World.block_lt_of_cell? w _ z0⟩
    cases ha'
    exact hb'
  have n1 : (a.add (i * 9)).block ≠ xb := by have := HXB.out; omega
  have n3 : xb ≠ (a.add (i * 9)).block := Ne.symm n1
  have lr : (a.add (i * 9)).block < w2.heap.size := by have := T2.out.size; omega
  have P1 := H2.out.put (d' := { d with seen := le }) (f := 4) (v := .int .i64 le) (u := .int .i64 d.seen) hd rfl rfl (H2.out.rs.sh i d hd)
  have hd1 : (R.set i { d with seen := le })[i]? = some { d with seen := le } := List.getElem?_set_self (List.getElem?_eq_some_iff.1 hd).1
  have S1 := (T2.out.mono (J' := (· = 12)) (fun _ h => h.elim)).trans P1.1
  have q2 := ((Stp.refl (· = 0) c2 _).setCell (w := w2.setCell ⟨(a.add (i * 9)).block, (a.add (i * 9)).off + 4, none⟩ (.int .i64 le)) (p := ⟨xb, 2, none⟩) (.int .i64 5) X2.out.1)
  have D2 := P1.2.stp0 q2
  have S2 := S1.setNew (p := ⟨xb, 2, none⟩) (.int .i64 5) HXB.out
  have D5 := Lib.hid (D2.stpF ((Stp.refl (fun _ => False) c2 _).drew.drew))
  have S5 := Lib.hid (S2.drew.drew)
  have X5 := Lib.hid (((X2.out.stp P1.1 (by decide)).set 2 (.int .i64 5)).stp ((Stp.refl (fun _ => False) c2 _).drew.drew) id)
  have Y5 := Lib.hid ((Blk.other (Y2.out.stp P1.1 (by decide)) (p := ⟨xb, 2, none⟩) (.int .i64 5) (by simp)).stp ((Stp.refl (fun _ => False) c2 _).drew.drew) id)
  clear h hd hm hf hs H2 T2 X2 Y2 k3 S1 S2 q2 D2 P1 hd1 lb y0 y1 y2 y3 y4 y5 y6 e0 e1 e2 e3 e4 e5 e6
  go_wp2
  go_region
  go_wp2
  go_region
  go_upto_region 9 with fail
  generalize ((w2.setCell ⟨(a.add (i * 9)).block, (a.add (i * 9)).off + 4, none⟩ (.int .i64 le)).setCell ⟨xb, 2, none⟩ (.int .i64 5)).drew.drew = w5 at D5 S5 X5 Y5 ⊢
  clear r4 lp k0 k1 k2 k4 x0 x1 x2 x3 x4 x5 x6 lx f0 f1 f2 f3 f4 f5 f6 ly fz4 n1 n3 lr
  obtain ⟨x0, x1, x2, x3, x4, x5, x6, lx⟩ := bl_7 X5.out
  obtain ⟨f0, f1, f2, f3, f4, f5, f6⟩ := bf_7 X5.out
  obtain ⟨y0, y1, y2, y3, y4, y5, y6, ly⟩ := bl_7 Y5.out
  obtain ⟨e0, e1, e2, e3, e4, e5, e6⟩ := bf_7 Y5.out
  have D6 := D5.out.stp0 ((Stp.refl (· = 0) c2 w5).setCell (p := ⟨xb, 2, none⟩) (.int .i64 6) X5.out.1)
  have HH := Lib.hid (D6.stp0 (((((((((Stp.refl (· = 0) c2 _).setCell (p := ⟨xb + 1, 0, none⟩) (.int .i64 (i : Int)) Y5.out.1).setCell (p := ⟨xb + 1, 1, none⟩) (.int .i64 n) Y5.out.1).setCell (p := ⟨xb + 1, 2, none⟩) (.int .i64 6) Y5.out.1).setCell (p := ⟨xb + 1, 3, none⟩) (.int .i64 cl) Y5.out.1).setCell (p := ⟨xb + 1, 4, none⟩) (.int .i64 hi) Y5.out.1).setCell (p := ⟨xb + 1, 5, none⟩) (.int .i64 le) Y5.out.1).setCell (p := ⟨xb + 1, 6, none⟩) (.slice none 0 0) Y5.out.1)))
  have SF := Lib.hid (((((((((S5.out.setNew (p := ⟨xb, 2, none⟩) (.int .i64 6) HXB.out).setNew (p := ⟨xb + 1, 0, none⟩) (.int .i64 (i : Int)) HYB.out).setNew (p := ⟨xb + 1, 1, none⟩) (.int .i64 n) HYB.out).setNew (p := ⟨xb + 1, 2, none⟩) (.int .i64 6) HYB.out).setNew (p := ⟨xb + 1, 3, none⟩) (.int .i64 cl) HYB.out).setNew (p := ⟨xb + 1, 4, none⟩) (.int .i64 hi) HYB.out).setNew (p := ⟨xb + 1, 5, none⟩) (.int .i64 le) HYB.out).setNew (p := ⟨xb + 1, 6, none⟩) (.slice none 0 0) HYB.out))
  clear D5 S5 X5 Y5 D6
  go_wp2
  refine bodyPost_ret (v := .agg #[.int .i64 (i : Int), .int .i64 n, .int .i64 6, .int .i64 cl, .int .i64 hi, .int .i64 le, .slice none 0 0]) (by clear SF HH HXB; simp [results, Tryz.results150, go_sem, *]) rfl ⟨rfl, c2, SF.out, HH.out⟩
end
end Go.Proofs.YtiphdedfbafhkaaGreatDoor

namespace Go.Proofs.YtiphdedfbafhkaaGreatDoor
open Go.RowKit

def S100 (xb : Nat) (b : Addr) (s N scap : Nat) (cl v : Int) (w : World) : Prop := w.cell? ⟨xb, 0, none⟩ = some (.int .i64 (N : Int)) ∧ w.cell? ⟨xb, 2, none⟩ = some (.int .i64 cl) ∧ w.cell? ⟨xb, 5, none⟩ = some (.slice (some b) N scap) ∧ w.cell? (b.add s) = some (.int .i64 v)

noncomputable def Tryz.cpub11 : Code := (Tryz.f100.body.bind (regionN 11)).getD .skip

set_option maxRecDepth 1000000 in
set_option maxHeartbeats 100000000 in
theorem Tryz.rpub11 {xb s N scap : Nat} {cl x v : Int} {b : Addr} {bv : Bool} {w9 : World} (HS9 : Hid (S100 xb b s N scap cl v w9.drew))
    (HM : Hid (((N : Int) == 0) = false ∧ (x + 1).tmod (N : Int) = (s : Int) ∧ wrap64 (s : Int) = (s : Int) ∧ wrap64 (x + 1) = x + 1 ∧ decide (x < cl) = true ∧ (0 : Int) ≤ (s : Int) ∧ (s : Int) < (N : Int) ∧ (v == x + 1) = bv)) {fr0 fr1 fr2 fr3 fr4 fr5 fr6 fr7 fr10 fr11 fr12 fr13 fr14 fr15 fr16 fr17 fr18 fr19 fr20 fr21 fr22 fr23 fr24 fr25 fr26 fr27 fr28 fr29 fr30 fr31 fr32 fr33 fr34 fr35 fr36 fr37 fr38 fr39 fr40 fr41 fr42 fr43 fr44 fr45 fr46 fr47 fr48 fr49 fr50 fr51 fr52 fr53 fr54 fr55 fr56 fr57 fr58 fr59 fr60 fr61 fr62 fr63 fr64 fr65 fr66 fr67 : Value} {Q0 : Exit → Act → World → Prop}
    (hQ : ∀ (w' : World), ∀ g47 g48 g49 g50 g51 g52 g53 g54 g55 g56 g57 g58 g59 g60 g61 g62 g63 : Value, Hid (w' = w9.drew) → Q0 .normal ⟨#[fr0, fr1, fr2, fr3, fr4, fr5, fr6, fr7, .pointer (some ⟨xb, 0, none⟩), .int .i64 x, fr10, fr11, fr12, fr13, fr14, fr15, fr16, fr17, fr18, fr19, fr20, fr21, fr22, fr23, fr24, fr25, fr26, fr27, fr28, fr29, fr30, fr31, fr32, fr33, fr34, fr35, fr36, fr37, fr38, fr39, fr40, fr41, fr42, fr43, fr44, fr45, fr46, g47, g48, g49, g50, g51, g52, g53, g54, g55, g56, g57, g58, g59, g60, g61, g62, g63, .bool bv, fr65, fr66, fr67], []⟩ w') : Code.wp Tryz.prog Tryz.cpub11 Q0 ⟨#[fr0, fr1, fr2, fr3, fr4, fr5, fr6, fr7, .pointer (some ⟨xb, 0, none⟩), .int .i64 x, fr10, fr11, fr12, fr13, fr14, fr15, fr16, fr17, fr18, fr19, fr20, fr21, fr22, fr23, fr24, fr25, fr26, fr27, fr28, fr29, fr30, fr31, fr32, fr33, fr34, fr35, fr36, fr37, fr38, fr39, fr40, fr41, fr42, fr43, fr44, fr45, fr46, fr47, fr48, fr49, fr50, fr51, fr52, fr53, fr54, fr55, fr56, fr57, fr58, fr59, fr60, fr61, fr62, fr63, fr64, fr65, fr66, fr67], []⟩ w9 := by
  conv => arg 2; whnf
  refine wp_region_noPanic ?_
  have HQ := Lib.hid hQ
  clear hQ
  obtain ⟨m0, m1, m2, w1_, g4, hs0, hs1, hbv⟩ := HM.out
  have mN : ¬ N = 0 := by omega
  have w2_ : IntKind.i64.wrap (x + 1) = x + 1 := (IntWalk.i64_left _).trans w1_
  have w3_ : IntKind.i64.wrap (s : Int) = (s : Int) := (IntWalk.i64_left _).trans m2
  have hS0 : S100 xb b s N scap cl v w9.drew := HS9.out
  refine wp_region_held_drew (S := S100 xb b s N scap cl v) (by kernel_rfl) hS0 (fun hS1 => ?_)
  have hS := Lib.hid hS1
  clear hS1 hS0
  generalize hwq : w9.drew = wq0 at hS ⊢
  have HW := Lib.hid hwq
  clear hwq
  refine wpH_takeL (i := 0) (v := ?_) rfl (by kernel_rfl) (by kernel_rfl) (by kernel_rfl) (fun _ _ _ h => h) (Or.inl ⟨by rfl, ?_⟩) hS.out ?_
  rotate_left
  · intro wy hSy
    clear hSy
    go_simp
    try with_reducible rfl
  try simp only [Act.put, List.setIfInBounds_toArray, List.set_cons_zero, List.set_cons_succ]
  refine wpH_takeL (i := 1) (v := ?_) rfl (by kernel_rfl) (by kernel_rfl) (by kernel_rfl) (fun _ _ _ h => h) (Or.inl ⟨by rfl, ?_⟩) hS.out ?_
  rotate_left
  · intro wy hSy
    clear hSy
    go_simp
    try with_reducible rfl
  try simp only [Act.put, List.setIfInBounds_toArray, List.set_cons_zero, List.set_cons_succ]
  refine wpH_takeL (i := 2) (v := ?_) rfl (by kernel_rfl) (by kernel_rfl) (by kernel_rfl) (fun _ _ _ h => h) (Or.inl ⟨by rfl, ?_⟩) hS.out ?_
  rotate_left
  · intro wy hSy
    obtain ⟨s0, s2, s5, sv⟩ := hSy
    go_simp
    try with_reducible rfl
  try simp only [Act.put, List.setIfInBounds_toArray, List.set_cons_zero, List.set_cons_succ]
  refine wpH_takeL (i := 3) (v := ?_) rfl (by kernel_rfl) (by kernel_rfl) (by kernel_rfl) (fun _ _ _ h => h) (Or.inl ⟨by rfl, ?_⟩) hS.out ?_
  rotate_left
  · intro wy hSy
    clear hSy
    go_simp
    try with_reducible rfl
  try simp only [Act.put, List.setIfInBounds_toArray, List.set_cons_zero, List.set_cons_succ]
  refine wpH_takeL (i := 4) (v := ?_) rfl (by kernel_rfl) (by kernel_rfl) (by kernel_rfl) (fun _ _ _ h => h) (Or.inl ⟨by rfl, ?_⟩) hS.out ?_
  rotate_left
  · intro wy hSy
    clear hSy
    go_simp
    try with_reducible rfl
  try simp only [Act.put, List.setIfInBounds_toArray, List.set_cons_zero, List.set_cons_succ]
  refine wpH_takeL (i := 5) (v := ?_) rfl (by kernel_rfl) (by kernel_rfl) (by kernel_rfl) (fun _ _ _ h => h) (Or.inl ⟨by rfl, ?_⟩) hS.out ?_
  rotate_left
  · intro wy hSy
    clear hSy
    go_simp
    try with_reducible rfl
  try simp only [Act.put, List.setIfInBounds_toArray, List.set_cons_zero, List.set_cons_succ]
  refine wpH_takeL (i := 6) (v := ?_) rfl (by kernel_rfl) (by kernel_rfl) (by kernel_rfl) (fun _ _ _ h => h) (Or.inl ⟨by rfl, ?_⟩) hS.out ?_
  rotate_left
  · intro wy hSy
    obtain ⟨s0, s2, s5, sv⟩ := hSy
    go_simp
    try with_reducible rfl
  try simp only [Act.put, List.setIfInBounds_toArray, List.set_cons_zero, List.set_cons_succ]
  refine wpH_takeL (i := 7) (v := ?_) rfl (by kernel_rfl) (by kernel_rfl) (by kernel_rfl) (fun _ _ _ h => h) (Or.inl ⟨by rfl, ?_⟩) hS.out ?_
  rotate_left
  · intro wy hSy
    clear hSy
    go_simp
    try with_reducible rfl
  try simp only [Act.put, List.setIfInBounds_toArray, List.set_cons_zero, List.set_cons_succ]
  refine wpH_takeL (i := 8) (v := ?_) rfl (by kernel_rfl) (by kernel_rfl) (by kernel_rfl) (fun _ _ _ h => h) (Or.inl ⟨by rfl, ?_⟩) hS.out ?_
  rotate_left
  · intro wy hSy
    clear hSy
    go_simp
    try with_reducible rfl
  try simp only [Act.put, List.setIfInBounds_toArray, List.set_cons_zero, List.set_cons_succ]
  refine wpH_takeL (i := 9) (v := ?_) rfl (by kernel_rfl) (by kernel_rfl) (by kernel_rfl) (fun _ _ _ h => h) (Or.inl ⟨by rfl, ?_⟩) hS.out ?_
  rotate_left
  · intro wy hSy
    clear hSy
    go_simp
    try with_reducible rfl
  try simp only [Act.put, List.setIfInBounds_toArray, List.set_cons_zero, List.set_cons_succ]
  refine wpH_takeL (i := 10) (v := ?_) rfl (by kernel_rfl) (by kernel_rfl) (by kernel_rfl) (fun _ _ _ h => h) (Or.inl ⟨by rfl, ?_⟩) hS.out ?_
  rotate_left
  · intro wy hSy
    obtain ⟨s0, s2, s5, sv⟩ := hSy
    go_simp
    try with_reducible rfl
  try simp only [Act.put, List.setIfInBounds_toArray, List.set_cons_zero, List.set_cons_succ]
  refine wpH_takeL (i := 11) (v := ?_) rfl (by kernel_rfl) (by kernel_rfl) (by kernel_rfl) (fun _ _ _ h => h) (Or.inl ⟨by rfl, ?_⟩) hS.out ?_
  rotate_left
  · intro wy hSy
    clear hSy
    go_simp
    try with_reducible rfl
  try simp only [Act.put, List.setIfInBounds_toArray, List.set_cons_zero, List.set_cons_succ]
  refine wpH_takeL (i := 12) (v := ?_) rfl (by kernel_rfl) (by kernel_rfl) (by kernel_rfl) (fun _ _ _ h => h) (Or.inl ⟨by rfl, ?_⟩) hS.out ?_
  rotate_left
  · intro wy hSy
    clear hSy
    go_simp
    try with_reducible rfl
  try simp only [Act.put, List.setIfInBounds_toArray, List.set_cons_zero, List.set_cons_succ]
  refine wpH_takeL (i := 13) (v := ?_) rfl (by kernel_rfl) (by kernel_rfl) (by kernel_rfl) (fun _ _ _ h => h) (Or.inl ⟨by rfl, ?_⟩) hS.out ?_
  rotate_left
  · intro wy hSy
    obtain ⟨s0, s2, s5, sv⟩ := hSy
    go_simp
    try with_reducible rfl
  try simp only [Act.put, List.setIfInBounds_toArray, List.set_cons_zero, List.set_cons_succ]
  refine wpH_takeL (i := 14) (v := ?_) rfl (by kernel_rfl) (by kernel_rfl) (by kernel_rfl) (fun _ _ _ h => h) (Or.inl ⟨by rfl, ?_⟩) hS.out ?_
  rotate_left
  · intro wy hSy
    clear hSy
    go_simp
    try with_reducible rfl
  try simp only [Act.put, List.setIfInBounds_toArray, List.set_cons_zero, List.set_cons_succ]
  refine wpH_takeL (i := 15) (v := ?_) rfl (by kernel_rfl) (by kernel_rfl) (by kernel_rfl) (fun _ _ _ h => h) (Or.inl ⟨by rfl, ?_⟩) hS.out ?_
  rotate_left
  · intro wy hSy
    clear hSy
    go_simp
    try with_reducible rfl
  try simp only [Act.put, List.setIfInBounds_toArray, List.set_cons_zero, List.set_cons_succ]
  refine wpH_takeL (i := 16) (v := ?_) rfl (by kernel_rfl) (by kernel_rfl) (by kernel_rfl) (fun _ _ _ h => h) (Or.inl ⟨by rfl, ?_⟩) hS.out ?_
  rotate_left
  · intro wy hSy
    clear hSy
    go_simp
    try with_reducible rfl
  try simp only [Act.put, List.setIfInBounds_toArray, List.set_cons_zero, List.set_cons_succ]
  refine wpH_takeL (i := 17) (v := ?_) rfl (by kernel_rfl) (by kernel_rfl) (by kernel_rfl) (fun _ _ _ h => h) (Or.inl ⟨by rfl, ?_⟩) hS.out ?_
  rotate_left
  · intro wy hSy
    clear hSy
    go_simp
    try with_reducible rfl
  try simp only [Act.put, List.setIfInBounds_toArray, List.set_cons_zero, List.set_cons_succ]
  refine wpAnyH_done (by kernel_rfl) ?_ _
  exact HQ.out _ _ _ _ _ _ _ _ _ _ _ _ _ _ _ _ _ _ (Lib.hid HW.out.symm)

section
variable {c c' : Nat → Nat} {w w' : World} {p tp : Nat} {now : Int} {dl dl' : List Tm} {l l' : List One} {ro : Option Addr} {rcap : Nat} {R : List DR} {i : Nat} {d d' : DR} {a b : Addr}
theorem box9 {k xb : Nat} {v0 v1 v2 v3 v4 v5 v6 v7 v8 : Value} {t : TypeId} (h : Blk c k w xb [v0, v1, v2, v3, v4, v5, v6, v7, v8] t) : w.cell? ⟨xb, 0, none⟩ = some v0 ∧ w.cell? ⟨xb, 1, none⟩ = some v1 ∧ w.cell? ⟨xb, 2, none⟩ = some v2 ∧ w.cell? ⟨xb, 5, none⟩ = some v5 :=
  ⟨by simpa using h.cell 0, by simpa using h.cell 1, by simpa using h.cell 2, by simpa using h.cell 5⟩
set_option maxRecDepth 100000 in
set_option maxHeartbeats 4000000 in
theorem r14pub_m (h : DWR c w p tp now dl l ro rcap R) (hd : R[i]? = some d) (hm : d.many = true) (lo : Int) (h0 : 0 ≤ lo) (h1 : lo ≤ 4611686018427387904) {N : Nat} (hN : d.n = (N : Int)) (hN0 : 0 < N) (hN1 : N ≤ 1048576) (hl : d.shown.length = N) (hc : -1 ≤ d.cl ∧ d.cl < 4611686018427387904) :
    Calls Tryz.prog 100 #[.pointer (some ⟨p, 0, none⟩), .int .i64 (i : Int), .int .i64 lo] w fun e w' => ∃ x : Int, e = .returned (.tuple #[.int .i64 x, .int .i64 0]) ∧ RHi d.shown N lo d.cl x ∧ ∃ c', Stp (fun _ => False) c c' w w' := by
  obtain ⟨r4, lp⟩ := h.r4
  obtain ⟨a, rfl, hs, -, k0, k1, k2, k3, k4, k5, k8⟩ := h.ringA hd
  obtain ⟨k6, k7⟩ := h.ring67 hd
  obtain ⟨i0, i1⟩ := h.lt hd
  have hso : ∃ b, d.so = some b := by
    obtain ⟨b', hb', -⟩ := (h.rs.sh i d hd).1.cell (j := 0) (v := .int .i64 (d.shown.getD 0 0)) (by simp [List.getD, show 0 < d.shown.length by omega])
    exact ⟨b', hb'⟩
  obtain ⟨b, hb⟩ := hso
  have hrow := (h.rs.sh i d hd).1
  rw [hb, hl] at hrow
  have g0 : decide ((i : Int) < 0) = false := by simp
  have g1 : decide (R.length ≤ i) = false := by simp; omega
  have g2 : decide (lo < 0) = false := by simp; omega
  have g3 : decide ((4611686018427387904 : Int) < lo) = false := by simp; omega
  have v1 : wrap64 (lo - 1) = lo - 1 := IntWalk.wrap64_in _ (by constructor <;> omega)
  have v2 : IntKind.i64.wrap (lo - 1) = lo - 1 := (IntWalk.i64_left _).trans v1
  have m0 : ((N : Int) == 0) = false := by simp; omega
  rw [hm] at k1
  rw [hN] at k0
  rw [hb, hl] at k5
  obtain ⟨xb, hxb⟩ : ∃ x, x = w.heap.size := ⟨_, rfl⟩
  obtain ⟨c1, hc1, t1⟩ := ((Stp.refl (fun _ => False) c w).alloc (.cells #[.int .i64 (N : Int), .bool true, .int .i64 d.cl, .int .i64 d.pub, .int .i64 d.seen, .slice (some b) N d.scap, .slice d.ea d.en d.ecap, .slice none 0 0, .slice d.wo d.wl.length d.wcap] 178) 0).name
  have X1 := Lib.hid (show Blk c1 0 (w.alloc (.cells #[.int .i64 (N : Int), .bool true, .int .i64 d.cl, .int .i64 d.pub, .int .i64 d.seen, .slice (some b) N d.scap, .slice d.ea d.en d.ecap, .slice none 0 0, .slice d.wo d.wl.length d.wcap] 178)) xb [.int .i64 (N : Int), .bool true, .int .i64 d.cl, .int .i64 d.pub, .int .i64 d.seen, .slice (some b) N d.scap, .slice d.ea d.en d.ecap, .slice none 0 0, .slice d.wo d.wl.length d.wcap] 178 by rw [hc1.out, hxb]; exact Blk.new c 0 w _ _)
  have R1 := Lib.hid (hrow.stp t1.out id)
  have HC := Lib.hid hc
  have HL := Lib.hid hl
  have HN := Lib.hid (And.intro hN0 hN1)
  have H01 := Lib.hid (And.intro h0 h1)
  clear h hd hs hm h0 h1 hc1 hrow hb hl hN hc hN0 hN1
  go_enter Tryz.func100, Tryz.ntmps100
  go_upto_region 6 with fail
  rw [← hxb]
  clear k0 k1 k2 k3 k4 k5 k6 k7 k8 r4 lp
  generalize w.alloc (.cells #[.int .i64 (N : Int), .bool true, .int .i64 d.cl, .int .i64 d.pub, .int .i64 d.seen, .slice (some b) N d.scap, .slice d.ea d.en d.ecap, .slice none 0 0, .slice d.wo d.wl.length d.wcap] 178) = w1 at X1 R1 t1 ⊢
  clear hxb
  obtain ⟨x0, x1, x2, x5⟩ := box9 X1.out
  go_wp2
  clear x0 x1 x2 x5
  go_loopg [9] (d.cl - (lo - 1)).toNat (fun gh av wr => ∃ (x : Int) (c2 : Nat → Nat), av = .int .i64 x ∧ Hid (gh = (d.cl - x).toNat) ∧ Hid (lo - 1 ≤ x ∧ (x ≤ d.cl ∨ x = lo - 1) ∧ ∀ s : Int, lo ≤ s → s ≤ x → d.shown.getD (s.toNat % N) 0 = s) ∧ Hid (Blk c2 0 wr xb [.int .i64 (N : Int), .bool true, .int .i64 d.cl, .int .i64 d.pub, .int .i64 d.seen, .slice (some b) N d.scap, .slice d.ea d.en d.ecap, .slice none 0 0, .slice d.wo d.wl.length d.wcap] 178) ∧ Hid (Row c2 (dk i) wr 2 1 (some b) N d.scap (d.shown.map (Value.int .i64))) ∧ Hid (Stp (fun _ => False) c c2 w wr))
  case atStart => exact ⟨lo - 1, c1, rfl, Lib.hid rfl, Lib.hid ⟨Int.le_refl _, .inr rfl, fun s a b => by omega⟩, X1, R1, t1⟩
  case round =>
    obtain ⟨x, c2, rfl, HG, HX, X2, R2, T2⟩ := hrel
    clear X1 R1 t1
    obtain ⟨y0, y1, y2, y5⟩ := box9 X2.out
    by_cases hx : x < d.cl
    · obtain ⟨s, hsE⟩ : ∃ s, s = (x + 1).toNat % N := ⟨_, rfl⟩
      have hx0 : 0 ≤ x + 1 := by have := HX.out.1; have := H01.out.1; omega
      have hsN : s < N := by rw [hsE]; exact Nat.mod_lt _ HN.out.1
      have hs0 : (0 : Int) ≤ (s : Int) := Int.natCast_nonneg s
      have hs1 : (s : Int) < (N : Int) := Int.ofNat_lt.2 hsN
      have w1_ : wrap64 (x + 1) = x + 1 := IntWalk.wrap64_in _ (by have := HC.out; constructor <;> omega)
      have m1 : (x + 1).tmod (N : Int) = (s : Int) := by
        obtain ⟨A, hA⟩ := Int.eq_ofNat_of_zero_le hx0
        rw [hA, Int.tmod_eq_emod_of_nonneg (Int.natCast_nonneg A), hsE, hA]
        exact (Int.natCast_emod A N).symm
      have m2 : wrap64 (s : Int) = (s : Int) := IntWalk.wrap64_in _ (by have := HN.out.2; constructor <;> omega)
      have g4 : decide (x < d.cl) = true := by simpa using hx
      obtain ⟨b', hb', ys⟩ := R2.out.toIn.ints (j := s) hsN
      cases hb'
      have HE := Lib.hid hsE
      have HXL := Lib.hid hx
      obtain ⟨v, hv⟩ : ∃ v, v = d.shown.getD s 0 := ⟨_, rfl⟩
      rw [← hv] at ys
      have HS0 := Lib.hid (show S100 xb b s N d.scap d.cl v wr.drew from ⟨y0, y2, y5, ys⟩)
      have HV := Lib.hid hv
      clear hx hx0 hsN hsE hv
      by_cases he : v = x + 1
      · have g5 : (v == x + 1) = true := by simpa using he
        have HEQ := Lib.hid he
        clear he
        go_wp2_with fail
        refine Tryz.rpub11 (v := v) (x := x) (cl := d.cl) (N := N) (scap := d.scap) (s := s) (b := b) (xb := xb) (bv := true) (Lib.hid HS0.out) (Lib.hid ⟨m0, m1, m2, w1_, g4, hs0, hs1, g5⟩) ?_
        intro wq g0 g1 g2 g3 g4 g5 g6 g7 g8 g9 g10 g11 g12 g13 g14 g15 g16 hwq
        obtain rfl := hwq.out
        go_wp2
        go_roundg (gk - 1)
        case rel => exact ⟨x + 1, c2, rfl, Lib.hid (by have := HG.out; have := HXL.out; omega), Lib.hid ⟨by have := HX.out.1; omega, .inl (by have := HXL.out; omega), fun z h1 h2 => by
          by_cases hz : z = x + 1
          · rw [hz, ← HE.out, ← HV.out, HEQ.out]
          · exact HX.out.2.2 z h1 (by omega)⟩, Lib.hid (X2.out.stp ((Stp.refl (fun _ => False) c2 wr).drew) id), Lib.hid (R2.out.stp ((Stp.refl (fun _ => False) c2 wr).drew) id), Lib.hid (T2.out.drew)⟩
        case measure => have := HG.out; have := HXL.out; omega
      · have g5 : (v == x + 1) = false := by simpa using he
        have HNE := Lib.hid he
        clear he
        go_wp2_with fail
        refine Tryz.rpub11 (v := v) (x := x) (cl := d.cl) (N := N) (scap := d.scap) (s := s) (b := b) (xb := xb) (bv := false) (Lib.hid HS0.out) (Lib.hid ⟨m0, m1, m2, w1_, g4, hs0, hs1, g5⟩) ?_
        intro wq g0 g1 g2 g3 g4 g5 g6 g7 g8 g9 g10 g11 g12 g13 g14 g15 g16 hwq
        obtain rfl := hwq.out
        go_wp2
        go_ret2
        exact ⟨x, rfl, ⟨HX.out.1, HX.out.2.1, HX.out.2.2, fun _ => by rw [← HE.out, ← HV.out]; exact HNE.out⟩, c2, T2.out.drew⟩
    · have g4 : decide (x < d.cl) = false := by simpa using hx
      have HXL := Lib.hid hx
      clear hx
      go_wp2
      go_quiet (fail)
      go_wp2
      go_ret2
      exact ⟨x, rfl, ⟨HX.out.1, HX.out.2.1, HX.out.2.2, fun h => absurd h (by have := HXL.out; omega)⟩, c2, T2.out.drewN _⟩
end
end Go.Proofs.YtiphdedfbafhkaaGreatDoor
