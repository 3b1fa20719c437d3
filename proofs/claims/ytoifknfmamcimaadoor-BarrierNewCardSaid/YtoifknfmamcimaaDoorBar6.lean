/- The walk of Begun: a plan's arena, barrier and shown indexes. No condition but that the table of math/bits holds what the program lays there. -/
import Derived.Test.YtoifknfmamcimaaDoorBar5
import Derived.Test.YtoifknfmamcimaaDoorPlan2
import Derived.Test.YtoifknfmamcimaaDoorAvailRef
import Derived.Deep.RegionHeld3
import Derived.Deep.DeepCutAuto
namespace Go.Proofs.YtoifknfmamcimaaDoor
open Go.RowKit

theorem small_wrap (j : Nat) (h : j ≤ 100) : wrap64 ((j : Int) + 1) = (j : Int) + 1 := IntWalk.wrap64_in _ (by constructor <;> omega)
theorem small_max (j : Nat) (h : j ≤ 100) : j + 1 ≤ maxLen := by unfold maxLen; omega
theorem small_bytes (j : Nat) (h : j ≤ 100) : (j + 1) * 8 ≤ 140737488355328 := by omega
theorem small_int (v : Int) (h : 0 ≤ v ∧ v ≤ 255) : wrap64 v = v := IntWalk.wrap64_in _ (by constructor <;> omega)
theorem small_seq (v : Int) (h : 0 ≤ v ∧ v ≤ 255) : v ≤ 4611686018427387904 := by omega
theorem small_steps (j : Nat) (v : Int) (h : j ≤ 100) : (j : Int) + (v - v) < 4611686018427387903 := by omega
theorem meas_w (m j : Nat) (h : j < m) (hm : j ≤ 100) : m - (intOf (.int .i64 (wrap64 ((j : Int) + 1)))).toNat < m - (intOf (.int .i64 (j : Int))).toNat := by
  rw [small_wrap j hm]
  show m - ((j : Int) + 1).toNat < m - (j : Int).toNat
  omega
theorem small_nat (j : Nat) (h : j ≤ 100) : (j : Int) < 4611686018427387904 := by omega
theorem meas_step (m j : Nat) (h : j < m) : m - ((j : Int) + 1).toNat < m - (j : Int).toNat := by omega

def Pln.cells (p : Pln) (ao : Option Addr) (cap : Nat) (so : Option Addr) (scap : Nat) : List Value :=
  [.int .i64 p.cursor, .slice ao p.after.length cap, .bool p.buffer, .slice so p.shown.length scap, .int .i64 p.alert, .int .u8 p.shift]

/-- Begun, part of the way. -/
structure Bg (c0 : Nat → Nat) (w0 : World) (p : Pln) (ao : Option Addr) (cap : Nat) (so : Option Addr) (scap : Nat) (x q : Nat) (la : List Int) (s : Int) (io : Option Addr) (m icap : Nat) (ids : List Int) (ho : Option Addr) (k hcap : Nat) (shown : List Int) (c : Nat → Nat) (w : World) : Prop where
  st : Stp (2 ≤ ·) c0 c w0 w
  ar : ArenaAt c 2 w q la s
  bx : Blk c 0 w x (p.cells ao cap so scap) 25
  row : Row c 9 w 3 1 io m icap (ids.map (Value.int .i64))
  sho : Row c 10 w 2 1 ho k hcap (shown.map (Value.int .i64))

section
variable {c0 : Nat → Nat} {w0 : World} {p : Pln} {ao : Option Addr} {cap : Nat} {so : Option Addr} {scap : Nat} {x q : Nat} {la la' : List Int} {s s' : Int} {io io' : Option Addr} {m m' icap icap' : Nat} {ids ids' : List Int} {ho ho' : Option Addr} {k k' hcap hcap' : Nat} {shown shown' : List Int} {c c' : Nat → Nat} {w w' : World}
theorem Bg.stpF (h : Bg c0 w0 p ao cap so scap x q la s io m icap ids ho k hcap shown c w) (t : Stp (fun _ => False) c c' w w') : Bg c0 w0 p ao cap so scap x q la s io m icap ids ho k hcap shown c' w' :=
  ⟨h.st.trans (t.mono fun _ h => h.elim), h.ar.stp t id, h.bx.stp t id, h.row.stp t id, h.sho.stp t id⟩
theorem Bg.are (h : Bg c0 w0 p ao cap so scap x q la s io m icap ids ho k hcap shown c w) (t : Stp (· = 2) c c' w w') (a : ArenaAt c' 2 w' q la' s') : Bg c0 w0 p ao cap so scap x q la' s' io m icap ids ho k hcap shown c' w' :=
  ⟨h.st.trans (t.up (by decide)), a, h.bx.stp t (by decide), h.row.stp t (by decide), h.sho.stp t (by decide)⟩
theorem Bg.are2 (h : Bg c0 w0 p ao cap so scap x q la s io m icap ids ho k hcap shown c w) (t : Stp (fun k => k = 2 ∨ k = 4) c c' w w') (a : ArenaAt c' 2 w' q la' s') : Bg c0 w0 p ao cap so scap x q la' s' io m icap ids ho k hcap shown c' w' :=
  ⟨h.st.trans (t.mono fun _ h => by rcases h with h | h <;> omega), a, h.bx.stp t (by decide), h.row.stp t (by decide), h.sho.stp t (by decide)⟩
theorem Bg.idp (h : Bg c0 w0 p ao cap so scap x q la s io m icap ids ho k hcap shown c w) {o : Obj} (st : Stp (· = 9) (paint c w.heap.size 9) c' (w.alloc o) w') (hr : Row c' 9 w' 3 1 io' m' icap' (ids'.map (Value.int .i64))) : Bg c0 w0 p ao cap so scap x q la s io' m' icap' ids' ho k hcap shown c' w' := by
  have t : Stp (· = 9) c c' w w' := ((Stp.refl _ c w).alloc o 9).trans st
  exact ⟨h.st.trans (t.up (by decide)), h.ar.stp t (by decide), h.bx.stp t (by decide), hr, h.sho.stp t (by decide)⟩
theorem Bg.put (h : Bg c0 w0 p ao cap so scap x q la s io m icap ids ho k hcap shown c w) {o : Obj} (st : Stp (· = 10) (paint c w.heap.size 10) c' (w.alloc o) w') (hr : Row c' 10 w' 2 1 ho' k' hcap' (shown'.map (Value.int .i64))) : Bg c0 w0 p ao cap so scap x q la s io m icap ids ho' k' hcap' shown' c' w' := by
  have t : Stp (· = 10) c c' w w' := ((Stp.refl _ c w).alloc o 10).trans st
  exact ⟨h.st.trans (t.up (by decide)), h.ar.stp t (by decide), h.bx.stp t (by decide), h.row.stp t (by decide), hr⟩
theorem Bg.cs (h : Bg c0 w0 p ao cap so scap x q la s io m icap ids ho k hcap shown c w) : w.cell? ⟨x, 0, none⟩ = some (.int .i64 p.cursor) ∧ w.cell? ⟨x, 1, none⟩ = some (.slice ao p.after.length cap) ∧ w.cell? ⟨x, 2, none⟩ = some (.bool p.buffer) ∧ w.cell? ⟨x, 3, none⟩ = some (.slice so p.shown.length scap) ∧ w.cell? ⟨x, 4, none⟩ = some (.int .i64 p.alert) ∧ w.cell? ⟨x, 5, none⟩ = some (.int .u8 p.shift) :=
  ⟨by simpa [Pln.cells] using h.bx.cell 0, by simpa [Pln.cells] using h.bx.cell 1, by simpa [Pln.cells] using h.bx.cell 2, by simpa [Pln.cells] using h.bx.cell 3, by simpa [Pln.cells] using h.bx.cell 4, by simpa [Pln.cells] using h.bx.cell 5⟩
end

/-- What Begun hands back. -/
structure BegM (c : Nat → Nat) (w : World) (p : Pln) (q b g : Nat) (bv : Option Addr) (la left : List Int) (al : Nat) (s : Int) (lo : Option Addr) (lcap : Nat) : Prop where
  ar : ArenaAt c 2 w q la s
  s0 : 0 ≤ s ∧ s ≤ 100
  br : BarIs c 3 w b g bv (p.bar al)
  le : In c 11 w 1 lo left.length lcap (left.map (Value.int .i64))
  ok : PlnOK p
  be : BegR p la left al

/-- Begun, behind New. -/
structure Bh (c0 : Nat → Nat) (w0 : World) (p : Pln) (ao : Option Addr) (cap : Nat) (so : Option Addr) (scap : Nat) (x q b g : Nat) (bv : Option Addr) (B : Bar) (la : List Int) (s : Int) (ho : Option Addr) (k hcap : Nat) (shown : List Int) (c : Nat → Nat) (w : World) : Prop where
  st : Stp (2 ≤ ·) c0 c w0 w
  ar : ArenaAt c 2 w q la s
  bx : Blk c 0 w x (p.cells ao cap so scap) 25
  br : BarIs c 3 w b g bv B
  sho : Row c 10 w 2 1 ho k hcap (shown.map (Value.int .i64))

section
variable {c0 : Nat → Nat} {w0 : World} {p : Pln} {ao : Option Addr} {cap : Nat} {so : Option Addr} {scap : Nat} {x q b g : Nat} {bv : Option Addr} {B : Bar} {la la' : List Int} {s s' : Int} {io : Option Addr} {m icap : Nat} {ho : Option Addr} {k hcap : Nat} {shown : List Int} {c c' : Nat → Nat} {w w' : World}
theorem Bh.stpF (h : Bh c0 w0 p ao cap so scap x q b g bv B la s ho k hcap shown c w) (t : Stp (fun _ => False) c c' w w') : Bh c0 w0 p ao cap so scap x q b g bv B la s ho k hcap shown c' w' :=
  ⟨h.st.trans (t.mono fun _ h => h.elim), h.ar.stp t id, h.bx.stp t id, h.br.stp t id id id, h.sho.stp t id⟩
theorem Bh.drew (h : Bh c0 w0 p ao cap so scap x q b g bv B la s ho k hcap shown c w) : Bh c0 w0 p ao cap so scap x q b g bv B la s ho k hcap shown c w.drew := h.stpF (Stp.refl (fun _ => False) _ _).drew
theorem Bh.are (h : Bh c0 w0 p ao cap so scap x q b g bv B la s ho k hcap shown c w) (t : Stp (· = 2) c c' w w') (a : ArenaAt c' 2 w' q la' s') : Bh c0 w0 p ao cap so scap x q b g bv B la' s' ho k hcap shown c' w' :=
  ⟨h.st.trans (t.up (by decide)), a, h.bx.stp t (by decide), h.br.stp t (by decide) (by decide) (by decide), h.sho.stp t (by decide)⟩
theorem Bh.lef (h : Bh c0 w0 p ao cap so scap x q b g bv B la s ho k hcap shown c w) {o : Obj} (st : Stp (· = 11) (paint c w.heap.size 11) c' (w.alloc o) w') : Bh c0 w0 p ao cap so scap x q b g bv B la s ho k hcap shown c' w' := by
  have t : Stp (· = 11) c c' w w' := ((Stp.refl _ c w).alloc o 11).trans st
  exact ⟨h.st.trans (t.up (by decide)), h.ar.stp t (by decide), h.bx.stp t (by decide), h.br.stp t (by decide) (by decide) (by decide), h.sho.stp t (by decide)⟩
theorem Bh.cs (h : Bh c0 w0 p ao cap so scap x q b g bv B la s ho k hcap shown c w) : w.cell? ⟨x, 4, none⟩ = some (.int .i64 p.alert) ∧ w.cell? ⟨x, 5, none⟩ = some (.int .u8 p.shift) ∧ x < w.heap.size :=
  ⟨by simpa [Pln.cells] using h.bx.cell 4, by simpa [Pln.cells] using h.bx.cell 5, h.bx.lt⟩
theorem Bg.bnew_c (h : Bg c0 w0 p ao cap so scap x q la s io m icap (idsN m) ho k hcap shown c w) (hm : m ≤ 8) (h0 : 0 < la.length) (hll : (la.length : Int) < 2097152) {buf : Option (Nat × Nat)}
    (hb : (buf = none ∧ bv = none) ∨ ∃ sh first q, buf = some (sh, first) ∧ bv = some ⟨q, 0, none⟩ ∧ BufAt c 5 w q sh first) :
    Calls Tryd.prog 35 #[.pointer (some ⟨q, 0, none⟩), .int .i64 0, .pointer bv, .slice io m icap] w fun e w' => ∃ b g, e = .returned (.tuple #[.pointer (some ⟨b, 0, none⟩), .nilIface]) ∧ ∃ c', Bh c0 w0 p ao cap so scap x q b g bv ⟨0, la.length, idsN m, buf⟩ (la ++ [0]) s ho k hcap shown c' w' := by
  refine (bnew_ok (cur := 0) (buf := buf) (bv := bv) h.ar h.row.toIn (by decide) (by decide) h0 hll (idsN_add m hm) hb).mono ?_
  rintro e w' ⟨b, g, rfl, c', t, a, br⟩
  have t' : Stp (fun k => k = 2 ∨ k = 4) c c' w w' := t
  exact ⟨b, g, rfl, c', h.st.trans (t'.mono fun _ h => by rcases h with h | h <;> omega), a, h.bx.stp t' (by decide), br, h.sho.stp t' (by decide)⟩
theorem Bh.alert_c (h : Bh c0 w0 p ao cap so scap x q b g bv B la s ho k hcap shown c w) : Calls Tryd.prog 32 #[.pointer (some ⟨b, 0, none⟩)] w fun e w' => e = .returned (.int .i64 B.al) ∧ Hid (Bh c0 w0 p ao cap so scap x q b g bv B la s ho k hcap shown c w') ∧ w'.cell? ⟨x, 4, none⟩ = some (.int .i64 p.alert) := by
  refine (balert_any h.br).mono ?_
  rintro e w' ⟨rfl, rfl⟩
  exact ⟨rfl, Lib.hid h, h.cs.1⟩
theorem Bh.store_c (h : Bh c0 w0 p ao cap so scap x q b g bv B la s ho k hcap shown c w) (j : Nat) (v : Int) (hj : j < la.length) (s0 : 0 ≤ s) (s1 : s < 4611686018427387904) : Calls Tryd.prog 49 #[.pointer (some ⟨q, 0, none⟩), .int .i64 j, .int .i64 v] w fun e w' => e = .returned .nilIface ∧ ∃ c', Hid (Bh c0 w0 p ao cap so scap x q b g bv B (la.set j v) (s + 1) ho k hcap shown c' w') ∧ w'.cell? ⟨x, 4, none⟩ = some (.int .i64 p.alert) := by
  refine (store_ok h.ar j v hj s0 s1).mono ?_
  rintro e w' ⟨rfl, c', t, a⟩
  have := h.are t a
  exact ⟨rfl, c', Lib.hid this, this.cs.1⟩
end

def ShoRel (c0 : Nat → Nat) (w0 : World) (p : Pln) (ao : Option Addr) (cap : Nat) (so : Option Addr) (scap : Nat) (x q bp sh : Nat) (io : Option Addr) (icap : Nat) (v i : Value) (wr : World) : Prop :=
  ∃ (c : Nat → Nat) (j : Nat) (la : List Int) (ho : Option Addr) (hcap : Nat), v = .slice ho j hcap ∧ i = .int .i64 j ∧ j ≤ p.shown.length ∧ Hid (la.length = p.after.length + 1 + 2 ^ sh ∧ (∀ i, i < p.after.length + 1 → la[i]? = (p.cursor :: p.after)[i]?) ∧ ShownAs la (p.shown.take j) (p.after.length + 1) sh) ∧ Hid (BufAt c 5 wr bp sh (p.after.length + 1)) ∧
    Bg c0 w0 p ao cap so scap x q la j io p.after.length icap (idsN p.after.length) ho j hcap (p.shown.take j) c wr

def LefRel (c0 : Nat → Nat) (w0 : World) (p : Pln) (ao : Option Addr) (cap : Nat) (so : Option Addr) (scap : Nat) (x q b g : Nat) (bv : Option Addr) (B : Bar) (la : List Int) (s : Int) (ho : Option Addr) (hcap sh : Nat) (v i : Value) (wr : World) : Prop :=
  ∃ (c : Nat → Nat) (j : Nat) (left : List Int) (lo : Option Addr) (lcap : Nat), v = .slice lo left.length lcap ∧ i = .int .i64 j ∧ j ≤ p.shown.length ∧ left = (p.shown.take j).filter (refIs p.shown (2 ^ sh)) ∧ Hid (Row c 11 wr 2 1 lo left.length lcap (left.map (Value.int .i64))) ∧
    Bh c0 w0 p ao cap so scap x q b g bv B la s ho p.shown.length hcap p.shown c wr

def AftRel (c0 : Nat → Nat) (w0 : World) (p : Pln) (ao : Option Addr) (cap : Nat) (so : Option Addr) (scap : Nat) (x q : Nat) (v i : Value) (wr : World) : Prop :=
  ∃ (c : Nat → Nat) (j : Nat) (io : Option Addr) (icap : Nat), v = .slice io j icap ∧ i = .int .i64 j ∧ j ≤ p.after.length ∧ Hid (∀ t ∈ p.after.take j, -1 ≤ t ∧ t ≤ 1000) ∧ Bg c0 w0 p ao cap so scap x q (p.cursor :: p.after.take j) 0 io j icap (idsN j) none 0 0 [] c wr

set_option maxRecDepth 100000 in
set_option maxHeartbeats 4000000 in
theorem begun_any {c : Nat → Nat} {w : World} (p : Pln) (ao : Option Addr) (cap : Nat) (so : Option Addr) (scap : Nat)
    (hl : In c 0 w 1 ao p.after.length cap (p.after.map (Value.int .i64))) (hs : In c 0 w 1 so p.shown.length scap (p.shown.map (Value.int .u8))) (hok : ∀ t ∈ p.shown, 0 ≤ t ∧ t ≤ 255) (hsh : p.shift ≤ 255) (ht : Tab w) (hc : c 1 = 0) :
    Calls Tryd.prog 13 #[.agg #[.int .i64 p.cursor, .slice ao p.after.length cap, .bool p.buffer, .slice so p.shown.length scap, .int .i64 p.alert, .int .u8 p.shift]] w fun e w' => ∃ c', Stp (2 ≤ ·) c c' w w' ∧
      ((e = .returned (.tuple #[.pointer none, .pointer none, .slice none 0 0, .bool false])) ∨
       ∃ q b g bv la left al s lo lcap, e = .returned (.tuple #[.pointer (some ⟨q, 0, none⟩), .pointer (some ⟨b, 0, none⟩), .slice lo left.length lcap, .bool true]) ∧ BegM c' w' p q b g bv la left al s lo lcap) := by
  have Ht := Lib.hid ht
  have Hc := Lib.hid hc
  have Hl := Lib.hid hl
  have Hs := Lib.hid hs
  have Hok := Lib.hid hok
  have Hsh := Lib.hid hsh
  clear ht hc hl hs hok hsh
  obtain ⟨x, hx⟩ : ∃ x, x = w.heap.size := ⟨_, rfl⟩
  obtain ⟨cx, hcx, TX⟩ := ((Stp.refl (2 ≤ ·) c w).alloc (.cells #[.int .i64 p.cursor, .slice ao p.after.length cap, .bool p.buffer, .slice so p.shown.length scap, .int .i64 p.alert, .int .u8 p.shift] 25) 0).name
  have BX := Lib.hid (show Blk cx 0 (w.alloc (.cells #[.int .i64 p.cursor, .slice ao p.after.length cap, .bool p.buffer, .slice so p.shown.length scap, .int .i64 p.alert, .int .u8 p.shift] 25)) x (p.cells ao cap so scap) 25 by rw [hcx.out, hx]; exact Blk.new c 0 w (p.cells ao cap so scap) 25)
  have Hx := Lib.hid hx
  clear hx hcx
  by_cases hp : -1 ≤ p.cursor ∧ p.cursor ≤ 1000 ∧ p.after.length ≤ 8 ∧ p.shown.length ≤ 60 ∧ 0 ≤ p.alert ∧ p.alert ≤ 2
  · obtain ⟨h1, h2, h3, h4, h5, h6⟩ := hp
    have t1 : decide (p.cursor < -1) = false := by simp; omega
    have t2 : decide ((1000 : Int) < p.cursor) = false := by simp; omega
    have t3 : decide ((8 : Int) < (p.after.length : Int)) = false := by simp; omega
    have t4 : decide ((60 : Int) < (p.shown.length : Int)) = false := by simp; omega
    have t5 : decide (p.alert < 0) = false := by simp; omega
    have t6 : decide ((2 : Int) < p.alert) = false := by simp; omega
    have H1 := Lib.hid h1
    have H2 := Lib.hid h2
    have H3 := Lib.hid h3
    have H4 := Lib.hid h4
    have H5 := Lib.hid h5
    have H6 := Lib.hid h6
    clear h1 h2 h3 h4 h5 h6
    go_enter Tryd.func13, Tryd.ntmps13
    go_wp2_with fail
    refine (new_any cx 2 _).mono ?_
    rintro e w1 ⟨rfl, c1, t1, a1⟩
    have ST1 := Lib.hid (TX.out.trans (t1.up (by decide)))
    obtain ⟨q, hq⟩ : ∃ q, q = w.heap.size + 1 := ⟨_, rfl⟩
    have A1 := Lib.hid (show ArenaAt c1 2 w1 q [] 0 by rw [hq]; simpa using a1)
    have Hq := Lib.hid hq
    have BX1 := Lib.hid (BX.out.stp t1 (by decide))
    clear t1 a1 TX BX hq
    have x0 := BX1.out.cell 0
    simp [Pln.cells] at x0
    have e1 : (w.alloc (.cells #[.int .i64 p.cursor, .slice ao p.after.length cap, .bool p.buffer, .slice so p.shown.length scap, .int .i64 p.alert, .int .u8 p.shift] 25)).heap.size = q := by rw [Hq.out]; simp
    rw [e1, ← Hx.out]
    clear e1
    go_wp2_with fail
    refine (alloc_ok A1.out p.cursor (by simp)).mono ?_
    rintro e w2 ⟨rfl, c2, t2, a2⟩
    have R2 := Lib.hid (show Bg c w p ao cap so scap x q [p.cursor] 0 none 0 0 [] none 0 0 [] c2 w2 from ⟨ST1.out.trans (t2.up (by decide)), a2, BX1.out.stp t2 (by decide), Row.nil _ _ _ _ _, Row.nil _ _ _ _ _⟩)
    obtain ⟨y0, y1, -, -, -, -⟩ := R2.out.cs
    clear x0 t2 a2 ST1 A1 BX1 Hq
    go_wp2_with fail
    go_loopw [9, 65] (fun v i wr => AftRel c w p ao cap so scap x q v i wr) (fun _ i _ => p.after.length - (intOf i).toNat)
    case atStart => exact ⟨c2, 0, none, 0, rfl, rfl, Nat.zero_le _, Lib.hid (fun t h => by simp at h), R2.out⟩
    case round =>
      obtain ⟨c3, j, io, icap, rfl, rfl, hj, HG, hr⟩ := hrel
      have R := Lib.hid hr
      clear hr R2 y0 y1
      by_cases hlt : j < p.after.length
      · as_aux_lemma =>
          obtain ⟨a, ha, hc3⟩ := (Hl.out.stp R.out.st (by decide)).ints hlt
          subst ha
          have Hf := Lib.hid (show p.after.take (j + 1) = p.after.take j ++ [p.after.getD j 0] by rw [List.take_succ_eq_append_getElem hlt]; simp [List.getD, hlt])
          generalize p.after.getD j 0 = v at *
          have Hlt := Lib.hid hlt
          by_cases hv : -1 ≤ v ∧ v ≤ 1000
          · have u1 : decide (v < -1) = false := by simp; omega
            have u2 : decide ((1000 : Int) < v) = false := by simp; omega
            have Hv := Lib.hid hv
            clear hv
            go_wp2_with fail
            refine (alloc_ok R.out.ar v (by simp only [List.length_cons, List.length_take]; have := H3.out; omega)).mono ?_
            rintro e w4 ⟨rfl, c4, t4, a4⟩
            have el : (p.cursor :: p.after.take j).length = j + 1 := by simp only [List.length_cons, List.length_take]; omega
            rw [el]
            have R4 := Lib.hid (R.out.are (la' := p.cursor :: p.after.take (j + 1)) t4 (by rw [Hf.out]; exact a4))
            clear t4 a4 hc3 R el
            have W8 : wrap64 ((j : Int) + 1) = (j : Int) + 1 := small_wrap j (by have := H3.out; omega)
            have d2 : Hid (j + 1 ≤ maxLen) := Lib.hid (small_max _ (by have := H3.out; omega))
            have d3 : Hid ((j + 1) * 8 ≤ 140737488355328) := Lib.hid (small_bytes _ (by have := H3.out; omega))
            go_wp2_with (at_builtin; refine wpList_append_row _ rfl (.tmp 83) (.tmp 85) 31 rfl _ 9 3 (.int .i64 0) 1 8 Tryd.underlying31 Tryd.infoInt rfl io j icap ((idsN j).map (Value.int .i64)) rfl (R4.out.row.alloc _ 9) _ 1 [.int .i64 ((j + 1 : Nat) : Int)] rfl (Src.one _ _ _) (by simp [Value.oneCell']) d2.out d3.out ?_)
            intro io5 icap5 w5 hr5 st5 ot5
            have R5 := Lib.hid (R4.out.idp (ids' := idsN (j + 1)) st5 (by rw [idsN_succ, List.map_append]; exact hr5))
            clear hr5 st5 ot5 R4
            go_wp2
            go_roundw
            case rel => exact ⟨_, j + 1, io5, icap5, rfl, by go_num, by omega, Lib.hid (fun t h => by
              rw [Hf.out] at h
              rcases List.mem_append.1 h with h | h
              · exact HG.out t h
              · simp at h; rw [h]; exact Hv.out), R5.out⟩
            case measure => exact meas_w _ j Hlt.out (by have := Hlt.out; have := H3.out; have := H4.out; omega)
          · rcases (show decide (v < -1) = true ∨ (decide (v < -1) = false ∧ decide ((1000 : Int) < v) = true) by simp only [decide_eq_true_eq, decide_eq_false_iff_not]; omega) with u1 | ⟨u1, u2⟩
            all_goals
              go_wp2
              exact bodyPost_ret (v := .tuple #[.pointer none, .pointer none, .slice none 0 0, .bool false]) (by simp [results, Tryd.results13, go_sem]) rfl ⟨c3, R.out.st, .inl rfl⟩
      · obtain rfl : j = p.after.length := by omega
        have HP := Lib.hid (show PlnOK p from ⟨⟨H1.out, H2.out⟩, H3.out, by have := HG.out; rw [List.take_length] at this; exact this, H4.out, ⟨H5.out, H6.out⟩⟩)
        have R1 := Lib.hid (show Bg c w p ao cap so scap x q (p.cursor :: p.after) 0 io p.after.length icap (idsN p.after.length) none 0 0 [] c3 wr by have := R.out; rw [List.take_length] at this; exact this)
        obtain ⟨-, -, y2, y3, -, y5⟩ := R1.out.cs
        clear R HG hlt
        cases hbu : p.buffer with
        | false => as_aux_lemma =>
          rw [hbu] at y2
          have Hbu := Lib.hid hbu
          clear hbu
          go_wp2_with fail
          refine (R1.out.bnew_c (bv := none) (buf := none) H3.out (by simp) (by simp only [List.length_cons]; have := H3.out; omega) (.inl ⟨rfl, rfl⟩)).mono ?_
          rintro e w8 ⟨b, g, rfl, c8, r8⟩
          have R8 := Lib.hid r8
          clear r8 R1
          obtain ⟨z4, -, zl⟩ := R8.out.cs
          go_upto_region 31 with fail
          go_region_held3 (fun w' => w'.cell? ⟨x, 4, none⟩ = some (.int .i64 p.alert))
            (first | assumption | go_keep)
            (first
              | (go_at_call 32; refine (Bh.alert_c (by first | exact R8.out | exact R8.out.drew | exact R8.out.drew.drew)).mono ?_; rintro e w9 ⟨rfl, R9, z4⟩)
              | (go_at_call 49; refine (Bh.store_c R9.out (p.cursor :: p.after).length p.alert (by simp) (by decide) (by decide)).mono ?_; rintro e w10 ⟨rfl, c10, R10, z4⟩))
          have HB := Lib.hid (show BegM c10 w10 p q b g none (((p.cursor :: p.after) ++ [0]).set (p.cursor :: p.after).length p.alert) [] (p.cursor :: p.after).length (0 + 1) none 0 from
            ⟨R10.out.ar, by decide, by have := R10.out.br; unfold Pln.bar Pln.buf; rw [if_neg (by rw [Hbu.out]; decide)]; exact this, In.nil _ _ _ _ _, HP.out, begR_false Hbu.out⟩)
          have HS := Lib.hid R10.out.st
          clear R10 R9 R8 z4 zl
          go_wp2_with fail
          go_loopw [21, 160] (fun v i wr => v = .slice none 0 0 ∧ i = .int .i64 0 ∧ wr = w10) (fun _ i _ => 0)
          case atStart => exact ⟨rfl, rfl, rfl⟩
          case round =>
            obtain ⟨rfl, rfl, rfl⟩ := hrel
            go_wp2
            exact bodyPost_ret (v := .tuple #[.pointer (some ⟨q, 0, none⟩), .pointer (some ⟨b, 0, none⟩), .slice none 0 0, .bool true]) (by simp [results, Tryd.results13, go_sem]) rfl ⟨c10, HS.out, .inr ⟨q, b, g, _, _, [], _, _, none, 0, rfl, HB.out⟩⟩
        | true => as_aux_lemma =>
          rw [hbu] at y2
          have Hbu := Lib.hid hbu
          clear hbu
          obtain ⟨sh, hs⟩ : ∃ sh, sh = p.shift % 7 := ⟨_, rfl⟩
          have hsh : sh < 7 := by omega
          have hN : wrap64 (2 ^ (p.shift % 7)) = 2 ^ sh := by rw [← hs]; exact wrap_two_pow sh (by omega)
          have b7 : (2 : Int) ^ sh ≤ 64 ∧ (1 : Int) ≤ 2 ^ sh := by
            have h1 : (2 : Nat) ^ sh ≤ 2 ^ 6 := Nat.pow_le_pow_right (by decide) (by omega)
            have h2 := two_pow_cast sh
            have h3 := (two_pow_bd sh (by omega)).1
            omega
          have B7 := Lib.hid b7
          have Hs7 := Lib.hid hs
          have Hsh7 := Lib.hid hsh
          clear hs b7 hsh
          go_wp2_with fail
          try simp only [hN]
          refine (of_pow c3 sh (by have := Hsh7.out; omega) _ (Ht.out.stp R1.out.st (by rw [Hc.out]; decide))).mono ?_
          rintro e w5 ⟨rfl, c5, t5⟩
          obtain ⟨c6, -, T6⟩ := (t5.alloc (.cells #[.int .i64 sh] 108) 2).name
          have R6 := Lib.hid (R1.out.stpF T6.out)
          obtain ⟨-, -, -, y3, -, y5⟩ := R6.out.cs
          clear t5 T6 R1 y2
          go_wp2_with fail
          refine (avnew_ok R6.out.ar 5 sh (by decide) (by have := Hsh7.out; omega) (by simp only [List.length_cons]; have := H3.out; have := B7.out; omega)).mono ?_
          rintro e w7 ⟨bp, rfl, c7, t7, a7, b7⟩
          have R7 := Lib.hid (R6.out.are t7 a7)
          have BP7 := Lib.hid (show BufAt c7 5 w7 bp sh (p.after.length + 1) from b7)
          have LF7 := Lib.hid (show ((p.cursor :: p.after) ++ List.replicate (2 ^ sh) (-1)).length = p.after.length + 1 + 2 ^ sh ∧ (∀ i, i < p.after.length + 1 → ((p.cursor :: p.after) ++ List.replicate (2 ^ sh) (-1))[i]? = (p.cursor :: p.after)[i]?) ∧ ShownAs ((p.cursor :: p.after) ++ List.replicate (2 ^ sh) (-1)) (p.shown.take 0) (p.after.length + 1) sh from
            ⟨by simp; omega, fun i hi => List.getElem?_append_left (by simpa using hi), ShownAs.start (p.cursor :: p.after) sh (by have := Hsh7.out; omega)⟩)
          obtain ⟨-, -, -, y3, -, y5⟩ := R7.out.cs
          clear t7 a7 b7 R6
          go_wp2_with fail
          go_loopw [15, 117] (fun v i wr => ShoRel c w p ao cap so scap x q bp sh io icap v i wr) (fun _ i _ => p.shown.length - (intOf i).toNat)
          case atStart => exact ⟨c7, 0, _, none, 0, rfl, rfl, Nat.zero_le _, LF7, BP7, R7.out⟩
          case round =>
            obtain ⟨c8, j, la, ho, hcap, rfl, rfl, hj, LF, BP, hr⟩ := hrel
            have R := Lib.hid hr
            clear hr R7 y3 y5 LF7 BP7
            by_cases hlt : j < p.shown.length
            · as_aux_lemma =>
                obtain ⟨a, ha, hc8⟩ := (Hs.out.stp R.out.st (by decide)).ints hlt
                subst ha
                have Hf := Lib.hid (show p.shown.take (j + 1) = p.shown.take j ++ [p.shown.getD j 0] by rw [List.take_succ_eq_append_getElem hlt]; simp [List.getD, hlt])
                have Hk := Lib.hid (show 0 ≤ p.shown.getD j 0 ∧ p.shown.getD j 0 ≤ 255 from Hok.out _ (by simp [List.getD, hlt]))
                generalize p.shown.getD j 0 = v at *
                have Hlt := Lib.hid hlt
                have W1 : wrap64 v = v := small_int v Hk.out
                go_wp2_with fail
                refine (avshow_n BP.out R.out.ar (by decide) (by have := LF.out.1; omega) v v Hk.out.1 (Int.le_refl _) (small_seq v Hk.out) (by rw [Int.sub_self]; exact Int.lt_of_lt_of_le (by decide) B7.out.2) (Int.natCast_nonneg _) (small_steps j v (by have := H4.out; omega))).mono ?_
                rintro e w9 ⟨rfl, c9, t9, a9⟩
                have eq1 : (v - v + 1).toNat = 1 := by omega
                have eq2 : (j : Int) + (v - v + 1) = ((j + 1 : Nat) : Int) := by omega
                rw [eq1, eq2] at a9
                have R9 := Lib.hid (R.out.are t9 a9)
                have BP9 := Lib.hid (BP.out.stp t9 (by decide))
                have LF9 := Lib.hid (show (showAll la (p.after.length + 1) sh v 1).length = p.after.length + 1 + 2 ^ sh ∧ (∀ i, i < p.after.length + 1 → (showAll la (p.after.length + 1) sh v 1)[i]? = (p.cursor :: p.after)[i]?) ∧ ShownAs (showAll la (p.after.length + 1) sh v 1) (p.shown.take (j + 1)) (p.after.length + 1) sh from
                  ⟨by rw [showAll_len]; exact LF.out.1, fun i hi => by rw [showAll_low hi]; exact LF.out.2.1 i hi, by
                    have := ShownAs.run (by have := Hsh7.out; omega) LF.out.2.2 (by have := LF.out.1; omega) v Hk.out.1 1
                    rw [Hf.out]
                    simpa [runOf] using this⟩)
                generalize showAll la (p.after.length + 1) sh v 1 = la9 at *
                clear t9 a9 hc8 R BP LF eq1 eq2
                have W8 : wrap64 ((j : Int) + 1) = (j : Int) + 1 := small_wrap j (by have := H4.out; omega)
                have d2 : Hid (j + 1 ≤ maxLen) := Lib.hid (small_max _ (by have := H4.out; omega))
                have d3 : Hid ((j + 1) * 8 ≤ 140737488355328) := Lib.hid (small_bytes _ (by have := H4.out; omega))
                go_wp2_with (at_builtin; refine wpList_append_row _ rfl (.tmp 129) (.tmp 132) 22 rfl _ 10 2 (.int .i64 0) 1 8 Tryd.underlying22 Tryd.info2 rfl ho j hcap ((p.shown.take j).map (Value.int .i64)) rfl (R9.out.sho.alloc _ 10) _ 1 [.int .i64 v] rfl (Src.one _ _ _) (by simp [Value.oneCell']) d2.out d3.out ?_)
                intro ho5 hcap5 w10 hr5 st5 ot5
                have BP10 := Lib.hid (BP9.out.stp (((Stp.refl (· = 10) c9 w9).alloc (.cells #[.int .i64 v] 2) 10).trans st5) (by decide))
                have R10 := Lib.hid (R9.out.put (shown' := p.shown.take (j + 1)) st5 (by rw [Hf.out, List.map_append, List.map_take]; exact hr5))
                clear hr5 st5 ot5 R9 BP9
                go_wp2
                go_roundw
                case rel => exact ⟨_, j + 1, la9, ho5, hcap5, rfl, by go_num, by omega, LF9, BP10, R10.out⟩
                case measure => exact meas_w _ j Hlt.out (by have := Hlt.out; have := H3.out; have := H4.out; omega)
            · as_aux_lemma =>
                obtain rfl : j = p.shown.length := by omega
                have LF1 := Lib.hid (show la.length = p.after.length + 1 + 2 ^ sh ∧ (∀ i, i < p.after.length + 1 → la[i]? = (p.cursor :: p.after)[i]?) ∧ ShownAs la p.shown (p.after.length + 1) sh by have := LF.out; rw [List.take_length] at this; exact this)
                have R1 := Lib.hid (show Bg c w p ao cap so scap x q la p.shown.length io p.after.length icap (idsN p.after.length) ho p.shown.length hcap p.shown c8 wr by have := R.out; rw [List.take_length] at this; exact this)
                clear R LF hlt
                go_wp2_with fail
                refine (R1.out.bnew_c (bv := some ⟨bp, 0, none⟩) (buf := some (sh, p.after.length + 1)) H3.out (by rw [LF1.out.1]; exact Nat.lt_of_lt_of_le (Nat.succ_pos _) (Nat.le_add_right _ _)) (by have := LF1.out.1; have := H3.out; have := B7.out; have := two_pow_cast sh; omega) (.inr ⟨sh, _, bp, rfl, rfl, BP.out⟩)).mono ?_
                rintro e w8 ⟨b, g, rfl, c8, r8⟩
                have R8 := Lib.hid r8
                clear r8 R1
                have Hst := Lib.hid (show (p.shown.length : Int) < 4611686018427387904 from small_nat _ (by have := H4.out; omega))
                obtain ⟨z4, -, zl⟩ := R8.out.cs
                go_upto_region 31 with fail
                go_region_held3 (fun w' => w'.cell? ⟨x, 4, none⟩ = some (.int .i64 p.alert))
                  (first | assumption | go_keep)
                  (first
                    | (go_at_call 32; refine (Bh.alert_c (by first | exact R8.out | exact R8.out.drew | exact R8.out.drew.drew)).mono ?_; rintro e w9 ⟨rfl, R9, z4⟩)
                    | (go_at_call 49; refine (Bh.store_c R9.out la.length p.alert (by simp) (Int.natCast_nonneg _) Hst.out).mono ?_; rintro e w10 ⟨rfl, c10, R10, z4⟩))
                go_wp2_with fail
                have R10' := Lib.hid (show Bh c w p ao cap so scap x q b g (some ⟨bp, 0, none⟩) ⟨0, la.length, idsN p.after.length, some (sh, p.after.length + 1)⟩ ((la ++ [0]).set la.length p.alert) ((p.shown.length : Int) + 1) ho p.shown.length hcap p.shown c10 w10 from R10.out)
                clear R10 R9 R8 z4 zl
                go_loopw [21, 160] (fun v i wr => LefRel c w p ao cap so scap x q b g (some ⟨bp, 0, none⟩) ⟨0, la.length, idsN p.after.length, some (sh, p.after.length + 1)⟩ ((la ++ [0]).set la.length p.alert) ((p.shown.length : Int) + 1) ho hcap sh v i wr) (fun _ i _ => p.shown.length - (intOf i).toNat)
                case atStart => exact ⟨c10, 0, [], none, 0, rfl, rfl, Nat.zero_le _, by simp, Lib.hid (Row.nil _ _ _ _ _), R10'.out⟩
                case round =>
                  obtain ⟨c11, j, left, lo, lcap, rfl, rfl, hj, hleft, HR, hr⟩ := hrel
                  have R := Lib.hid hr
                  have HL := Lib.hid hleft
                  clear hr hleft R10'
                  by_cases hlt : j < p.shown.length
                  · as_aux_lemma =>
                      obtain ⟨a, ha, hc11⟩ := R.out.sho.toIn.ints hlt
                      subst ha
                      have Hf := Lib.hid (show p.shown.take (j + 1) = p.shown.take j ++ [p.shown.getD j 0] by rw [List.take_succ_eq_append_getElem hlt]; simp [List.getD, hlt])
                      have Hk := Lib.hid (show 0 ≤ p.shown.getD j 0 ∧ p.shown.getD j 0 ≤ 255 from Hok.out _ (by simp [List.getD, hlt]))
                      generalize p.shown.getD j 0 = v at *
                      have Hlt := Lib.hid hlt
                      have Hll := Lib.hid (show left.length ≤ j by rw [HL.out]; exact Nat.le_trans (List.length_filter_le _ _) (by rw [List.length_take]; exact Nat.min_le_left _ _))
                      obtain ⟨-, y5, yl⟩ := R.out.cs
                      go_wp2_with fail
                      try simp only [hN]
                      refine (r07is_any R.out.sho.toIn (2 ^ sh) v (fun t h => (Hok.out t h).1) Hk.out.1 B7.out.2).mono ?_
                      rintro e w12 ⟨rfl, s12⟩
                      have R12 := Lib.hid (R.out.stpF s12)
                      have HR12 := Lib.hid (HR.out.stp s12 id)
                      clear s12 hc11 R HR y5 yl
                      have W8 : wrap64 ((j : Int) + 1) = (j : Int) + 1 := small_wrap j (by have := H4.out; omega)
                      obtain ⟨rb, hrb⟩ : ∃ rb, rb = refIs p.shown (2 ^ sh) v := ⟨_, rfl⟩
                      have Hrb := Lib.hid hrb
                      rw [← hrb]
                      clear hrb
                      cases rb with
                      | false =>
                        go_wp2
                        go_roundw
                        case rel => exact ⟨c11, j + 1, left, lo, lcap, rfl, by go_num, by omega, by rw [Hf.out, List.filter_append, HL.out]; simp [← Hrb.out], HR12, R12.out⟩
                        case measure => exact meas_w _ j Hlt.out (by have := Hlt.out; have := H3.out; have := H4.out; omega)
                      | true =>
                        have d2 : Hid (left.length + 1 ≤ maxLen) := Lib.hid (small_max _ (by have := H4.out; have := Hll.out; omega))
                        have d3 : Hid ((left.length + 1) * 8 ≤ 140737488355328) := Lib.hid (small_bytes _ (by have := H4.out; have := Hll.out; omega))
                        go_wp2_with (at_builtin; refine wpList_append_row _ rfl (.tmp 171) (.tmp 173) 22 rfl _ 11 2 (.int .i64 0) 1 8 Tryd.underlying22 Tryd.info2 rfl lo left.length lcap (left.map (Value.int .i64)) rfl (HR12.out.alloc _ 11) _ 1 [.int .i64 v] rfl (Src.one _ _ _) (by simp [Value.oneCell']) d2.out d3.out ?_)
                        intro lo5 lcap5 w13 hr5 st5 ot5
                        have R13 := Lib.hid (R12.out.lef st5)
                        have HR13 := Lib.hid (show Row _ 11 w13 2 1 lo5 (left ++ [v]).length lcap5 ((left ++ [v]).map (Value.int .i64)) by rw [List.map_append]; simpa using hr5)
                        have HE := Lib.hid (show left.length + 1 = (left ++ [v]).length by simp)
                        clear hr5 st5 ot5 R12 HR12
                        go_wp2
                        go_roundw
                        case rel => exact ⟨_, j + 1, left ++ [v], lo5, lcap5, by rw [HE.out], by go_num, by omega, by rw [Hf.out, List.filter_append, HL.out]; simp [← Hrb.out], HR13, R13.out⟩
                        case measure => exact meas_w _ j Hlt.out (by have := Hlt.out; have := H3.out; have := H4.out; omega)
                  · as_aux_lemma =>
                      obtain rfl : j = p.shown.length := by omega
                      have HL1 := Lib.hid (show left = p.shown.filter (refIs p.shown (2 ^ (p.shift % 7))) by have := HL.out; rw [List.take_length, Hs7.out] at this; exact this)
                      have HB := Lib.hid (show BegM c11 wr p q b g (some ⟨bp, 0, none⟩) ((la ++ [0]).set la.length p.alert) left la.length ((p.shown.length : Int) + 1) lo lcap from
                        ⟨R.out.ar, by have := H4.out; omega, by have := R.out.br; unfold Pln.bar Pln.buf; rw [if_pos Hbu.out, ← Hs7.out]; exact this, HR.out.toIn, HP.out, by rw [HL1.out]; exact begR_true Hbu.out (by rw [← Hs7.out]; exact LF1.out.1) LF1.out.2.1 (by rw [← Hs7.out]; exact LF1.out.2.2)⟩)
                      have HS := Lib.hid R.out.st
                      clear R HR HL HL1 hlt
                      go_wp2
                      exact bodyPost_ret (v := .tuple #[.pointer (some ⟨q, 0, none⟩), .pointer (some ⟨b, 0, none⟩), .slice lo left.length lcap, .bool true]) (by simp [results, Tryd.results13, go_sem]) rfl ⟨c11, HS.out, .inr ⟨q, b, g, _, _, left, _, _, lo, lcap, rfl, HB.out⟩⟩
  · rcases (show decide (p.cursor < -1) = true ∨ (decide (p.cursor < -1) = false ∧ decide ((1000 : Int) < p.cursor) = true) ∨ (decide (p.cursor < -1) = false ∧ decide ((1000 : Int) < p.cursor) = false ∧ decide ((8 : Int) < (p.after.length : Int)) = true) ∨ (decide (p.cursor < -1) = false ∧ decide ((1000 : Int) < p.cursor) = false ∧ decide ((8 : Int) < (p.after.length : Int)) = false ∧ decide ((60 : Int) < (p.shown.length : Int)) = true) ∨ (decide (p.cursor < -1) = false ∧ decide ((1000 : Int) < p.cursor) = false ∧ decide ((8 : Int) < (p.after.length : Int)) = false ∧ decide ((60 : Int) < (p.shown.length : Int)) = false ∧ decide (p.alert < 0) = true) ∨ (decide (p.cursor < -1) = false ∧ decide ((1000 : Int) < p.cursor) = false ∧ decide ((8 : Int) < (p.after.length : Int)) = false ∧ decide ((60 : Int) < (p.shown.length : Int)) = false ∧ decide (p.alert < 0) = false ∧ decide ((2 : Int) < p.alert) = true) by
      simp only [decide_eq_true_eq, decide_eq_false_iff_not]
      omega) with t1 | ⟨t1, t2⟩ | ⟨t1, t2, t3⟩ | ⟨t1, t2, t3, t4⟩ | ⟨t1, t2, t3, t4, t5⟩ | ⟨t1, t2, t3, t4, t5, t6⟩
    all_goals
      clear hp
      go_enter Tryd.func13, Tryd.ntmps13
      go_wp2
      exact bodyPost_ret (v := .tuple #[.pointer none, .pointer none, .slice none 0 0, .bool false]) (by simp [results, Tryd.results13, go_sem]) rfl ⟨_, TX.out, .inl rfl⟩
end Go.Proofs.YtoifknfmamcimaaDoor
