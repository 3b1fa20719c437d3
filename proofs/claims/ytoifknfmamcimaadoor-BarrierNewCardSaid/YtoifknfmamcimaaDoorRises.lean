/- The walk of BarrierRises. No condition but that the table of math/bits holds what the program lays there. -/
import Derived.Test.YtoifknfmamcimaaDoorPlanIn
import Derived.Test.YtoifknfmamcimaaDoorBarRise
import Derived.Deep.QuietTactic
namespace Go.Proofs.YtoifknfmamcimaaDoor
open Go.RowKit

/-- Rises, part of the way. -/
structure RzAt (w0 : World) (p : Pln) (ao : Option Addr) (cap : Nat) (so : Option Addr) (scap : Nat) (x q b g y : Nat) (bv : Option Addr) (B : Bar) (next : Int) (k : Nat) (M : Int) (la : List Int) (s : Int) (pr : Pr) (po : Option Addr) (pcap : Nat) (c : Nat → Nat) (w : World) : Prop where
  b0 : B0 w0 p ao cap so scap x c w
  ar : ArenaAt c 2 w q la s
  s0 : 0 ≤ s ∧ s ≤ M
  br : BarIs c 3 w b g bv B
  pb : Blk c 8 w y [.pointer (some ⟨b, 0, none⟩), .int .i64 pr.next, .int .i64 (pr.stage : Int), .slice po pr.ids.length pcap, .int .i64 pr.most, .int .i64 pr.hi, .int .i64 pr.pos, .int .i64 pr.sign, .bool pr.fin] 35
  sc : In c 6 w 1 po pr.ids.length pcap (pr.ids.map (Value.int .i64))
  ok : BarOK la B
  po : PrOK la B pr
  iv : RInv B la next k pr
  al : la.getD B.al 0 ≠ 1
  bd : ∀ j, j ≤ p.after.length → la.getD j 0 ≤ M
  mb : 0 ≤ M ∧ M ≤ 2000
  bl : ∀ j, j ≤ p.after.length → -1 ≤ la.getD j 0

theorem wrapB {x : Int} (h0 : -5000 ≤ x) (h1 : x ≤ 5000) : wrap64 x = x := IntWalk.wrap64_in _ (by constructor <;> omega)

section
variable {w0 : World} {p : Pln} {ao : Option Addr} {cap : Nat} {so : Option Addr} {scap : Nat} {x q b g y : Nat} {bv : Option Addr} {B : Bar} {next : Int} {k : Nat} {M : Int} {la : List Int} {s : Int} {pr : Pr} {po : Option Addr} {pcap : Nat} {c c' : Nat → Nat} {w w' : World}
theorem RzAt.stpF (h : RzAt w0 p ao cap so scap x q b g y bv B next k M la s pr po pcap c w) (t : Stp (fun _ => False) c c' w w') : RzAt w0 p ao cap so scap x q b g y bv B next k M la s pr po pcap c' w' :=
  ⟨h.b0.stp t (fun _ h => h.elim), h.ar.stp t id, h.s0, h.br.stp t id id id, h.pb.stp t id, h.sc.stp t id, h.ok, h.po, h.iv, h.al, h.bd, h.mb, h.bl⟩
/-- A cell rises. -/
theorem RzAt.rise (h : RzAt w0 p ao cap so scap x q b g y bv B next k M la s pr po pcap c w) {j : Nat} {d : Int} (hd : 0 ≤ d ∧ d ≤ 2) (hj : j ≠ B.al) (hjn : j ≤ p.after.length) (hjl : j < la.length) (hM : M ≤ 1990) :
    Calls Tryd.prog 17 #[.pointer (some ⟨q, 0, none⟩), .int .i64 j, .int .i64 d] w fun e w' => ∃ V c' la', e = .returned (.tuple #[.int .i64 V, .nilIface]) ∧ Hid (RzAt w0 p ao cap so scap x q b g y bv B next k (M + 2) la' (s + 1) pr po pcap c' w') := by
  have h1 := h.bd j hjn
  have h2 := h.bl j hjn
  have h3 := h.s0
  have hg : ∀ i, (la.set j (la.getD j 0 + d)).getD i 0 = if i = j then la.getD j 0 + d else la.getD i 0 := by
    intro i
    rw [List.getD, List.getElem?_set]
    by_cases e : j = i
    · subst e; simp [hjl]
    · rw [if_neg e, if_neg (fun h => e h.symm)]; rfl
  refine (add_ok h.ar j d _ hjl rfl (by omega) (by omega) h3.1 (by omega)).mono ?_
  rintro e w' ⟨rfl, c', t, a⟩
  refine ⟨_, c', la.set j (la.getD j 0 + d), rfl, Lib.hid ⟨h.b0.stp t (fun k e => by omega), a, by omega, h.br.stp t (by decide) (by decide) (by decide), h.pb.stp t (by decide), h.sc.stp t (by decide), ?_, h.po.len (by simp), ?_, ?_, ?_, by have := h.mb; omega, ?_⟩⟩
  · obtain ⟨o1, o2, o3, o4, o5, o6⟩ := h.ok
    refine ⟨by simpa using o1, by simpa using o2, by simpa using o3, o4, fun sh first e => by simpa using o5 sh first e, ?_⟩
    rw [hg]
    split <;> omega
  · refine h.iv.rise (fun i => ?_)
    rw [hg]
    split
    · rename_i e; rw [e]; omega
    · omega
  · rw [hg, if_neg (fun e => hj e.symm)]; exact h.al
  · intro i hi
    have := h.bd i hi
    rw [hg]
    split <;> omega
  · intro i hi
    have := h.bl i hi
    rw [hg]
    split <;> omega
theorem RzAt.done_c (h : RzAt w0 p ao cap so scap x q b g y bv B next k M la s pr po pcap c w) {fb : Bool} (hfb : pr.fin = fb) :
    Calls Tryd.prog 16 #[.agg #[.pointer (some ⟨b, 0, none⟩), .int .i64 pr.next, .int .i64 (pr.stage : Int), .slice po pr.ids.length pcap, .int .i64 pr.most, .int .i64 pr.hi, .int .i64 pr.pos, .int .i64 pr.sign, .bool fb]] w fun e w' => e = .returned (.bool fb) ∧ ∃ c', Hid (RzAt w0 p ao cap so scap x q b g y bv B next k M la s pr po pcap c' w') := by
  subst hfb
  refine (prdone_any _ _ _ _ _ _ _ _ _ _ c ⟨b, 0, none⟩ w).mono ?_
  rintro e w' ⟨rfl, c', t⟩
  exact ⟨rfl, c', Lib.hid (h.stpF t)⟩
theorem RzAt.cs (h : RzAt w0 p ao cap so scap x q b g y bv B next k M la s pr po pcap c w) : (w.cell? ⟨y, 0, none⟩ = some (.pointer (some ⟨b, 0, none⟩)) ∧ w.cell? ⟨y, 1, none⟩ = some (.int .i64 pr.next) ∧ w.cell? ⟨y, 2, none⟩ = some (.int .i64 (pr.stage : Int)) ∧ w.cell? ⟨y, 3, none⟩ = some (.slice po pr.ids.length pcap) ∧ w.cell? ⟨y, 4, none⟩ = some (.int .i64 pr.most) ∧ w.cell? ⟨y, 5, none⟩ = some (.int .i64 pr.hi) ∧ w.cell? ⟨y, 6, none⟩ = some (.int .i64 pr.pos) ∧ w.cell? ⟨y, 7, none⟩ = some (.int .i64 pr.sign) ∧ w.cell? ⟨y, 8, none⟩ = some (.bool pr.fin)) ∧ (w.frozen? ⟨y, 0, none⟩ = false ∧ w.frozen? ⟨y, 1, none⟩ = false ∧ w.frozen? ⟨y, 2, none⟩ = false ∧ w.frozen? ⟨y, 3, none⟩ = false ∧ w.frozen? ⟨y, 4, none⟩ = false ∧ w.frozen? ⟨y, 5, none⟩ = false ∧ w.frozen? ⟨y, 6, none⟩ = false ∧ w.frozen? ⟨y, 7, none⟩ = false ∧ w.frozen? ⟨y, 8, none⟩ = false) ∧ y < w.heap.size ∧ w.cell? ⟨x, 1, none⟩ = some (.slice ao p.after.length cap) ∧ x < w.heap.size :=
  ⟨⟨by simpa using h.pb.cell 0, by simpa using h.pb.cell 1, by simpa using h.pb.cell 2, by simpa using h.pb.cell 3, by simpa using h.pb.cell 4, by simpa using h.pb.cell 5, by simpa using h.pb.cell 6, by simpa using h.pb.cell 7, by simpa using h.pb.cell 8⟩, ⟨h.pb.free 0, h.pb.free 1, h.pb.free 2, h.pb.free 3, h.pb.free 4, h.pb.free 5, h.pb.free 6, h.pb.free 7, h.pb.free 8⟩, h.pb.lt, h.b0.cs.2.1, h.b0.cs.2.2.2.2.2.2⟩
/-- A step of the probe: what it hands back, ahead of its being laid into the box. -/
theorem RzAt.step_c (h : RzAt w0 p ao cap so scap x q b g y bv B next k M la s pr po pcap c w) (hf : pr.fin = false) (hM : M ≤ 1990) :
    Calls Tryd.prog 18 #[.agg #[.pointer (some ⟨b, 0, none⟩), .int .i64 pr.next, .int .i64 (pr.stage : Int), .slice po pr.ids.length pcap, .int .i64 pr.most, .int .i64 pr.hi, .int .i64 pr.pos, .int .i64 pr.sign, .bool false], .pointer (some ⟨q, 0, none⟩)] w fun e w' => ∃ po' pcap' c', e = .returned (.tuple #[prV b (stepP B la pr) po' pcap', .nilIface]) ∧ Hid (RzAt w0 p ao cap so scap x q b g y bv B next k (M + 1) la (s + 1) pr po pcap c' w') ∧ Hid (In c' 6 w' 1 po' (stepP B la pr).ids.length pcap' ((stepP B la pr).ids.map (Value.int .i64))) := by
  have h3 := h.s0
  rw [← hf]
  refine (pstep_c h.ar h.br h.sc h.ok h.po hf h3.1 (by omega)).mono ?_
  rintro e w' ⟨po', pcap', rfl, c', t, a, i⟩
  exact ⟨po', pcap', c', rfl, Lib.hid ⟨h.b0.stp t (fun k e => by omega), a, by omega, h.br.stp t (by decide) (by decide) (by decide), h.pb.stp t (by decide), h.sc.stp t (by decide), h.ok, h.po, h.iv, h.al, fun j hj => by have := h.bd j hj; omega, by have := h.mb; omega, h.bl⟩, Lib.hid i⟩
/-- What a step handed back, laid into the box. -/
theorem RzAt.lay (h : RzAt w0 p ao cap so scap x q b g y bv B next k M la s pr po pcap c w) (hf : pr.fin = false) (hb : B.buf = none) {po' : Option Addr} {pcap' : Nat} (hi : In c 6 w 1 po' (stepP B la pr).ids.length pcap' ((stepP B la pr).ids.map (Value.int .i64))) :
    RzAt w0 p ao cap so scap x q b g y bv B next (k + 1) M la s (stepP B la pr) po' pcap' c (((((((((w.setCell ⟨y, 0, none⟩ (.pointer (some ⟨b, 0, none⟩))).setCell ⟨y, 1, none⟩ (.int .i64 (stepP B la pr).next)).setCell ⟨y, 2, none⟩ (.int .i64 ((stepP B la pr).stage : Int))).setCell ⟨y, 3, none⟩ (.slice po' (stepP B la pr).ids.length pcap')).setCell ⟨y, 4, none⟩ (.int .i64 (stepP B la pr).most)).setCell ⟨y, 5, none⟩ (.int .i64 (stepP B la pr).hi)).setCell ⟨y, 6, none⟩ (.int .i64 (stepP B la pr).pos)).setCell ⟨y, 7, none⟩ (.int .i64 (stepP B la pr).sign)).setCell ⟨y, 8, none⟩ (.bool (stepP B la pr).fin)) := by
  have hy := h.pb.1
  have t := (((((((((Stp.refl (· = 8) c w).setCell (p := ⟨y, 0, none⟩) (.pointer (some ⟨b, 0, none⟩)) hy).setCell (p := ⟨y, 1, none⟩) (.int .i64 (stepP B la pr).next) hy).setCell (p := ⟨y, 2, none⟩) (.int .i64 ((stepP B la pr).stage : Int)) hy).setCell (p := ⟨y, 3, none⟩) (.slice po' (stepP B la pr).ids.length pcap') hy).setCell (p := ⟨y, 4, none⟩) (.int .i64 (stepP B la pr).most) hy).setCell (p := ⟨y, 5, none⟩) (.int .i64 (stepP B la pr).hi) hy).setCell (p := ⟨y, 6, none⟩) (.int .i64 (stepP B la pr).pos) hy).setCell (p := ⟨y, 7, none⟩) (.int .i64 (stepP B la pr).sign) hy).setCell (p := ⟨y, 8, none⟩) (.bool (stepP B la pr).fin) hy
  refine ⟨h.b0.stp t (fun k e => by omega), h.ar.stp t (by decide), h.s0, h.br.stp t (by decide) (by decide) (by decide), ?_, hi.stp t (by decide), h.ok, h.po.step h.ok, h.iv.step hb h.al hf, h.al, h.bd, h.mb, h.bl⟩
  exact ((((((((h.pb.set 0 _).set 1 _).set 2 _).set 3 _).set 4 _).set 5 _).set 6 _).set 7 _).set 8 _
end

theorem Rz_bd {p : Pln} {la left : List Int} {al : Nat} (h : BegR p la left al) (hp : PlnOK p) (j : Nat) (hj : j ≤ p.after.length) : -1 ≤ la.getD j 0 ∧ la.getD j 0 ≤ 1000 := by
  cases j with
  | zero => rw [h.vc]; exact hp.cu
  | succ j =>
    rw [h.va j hj]
    exact hp.av _ (by simp [List.getD, show j < p.after.length from hj])

theorem Rz_mods (v : Int) (L : Nat) (h : 0 ≤ v ∧ v ≤ 255) : ∃ id d : Nat, Hid (v.tmod ((L : Int) + 1) = (id : Int)) ∧ Hid (v.tmod 3 = (d : Int)) ∧ Hid (id ≤ L) ∧ Hid (d ≤ 2) := by
  obtain ⟨u, rfl⟩ := Int.eq_ofNat_of_zero_le h.1
  refine ⟨u % (L + 1), u % 3, Lib.hid ?_, Lib.hid ?_, Lib.hid ?_, Lib.hid (by omega)⟩
  · rw [show (L : Int) + 1 = ((L + 1 : Nat) : Int) by simp, ← Int.ofNat_tmod]
  · rw [show (3 : Int) = ((3 : Nat) : Int) from rfl, ← Int.ofNat_tmod]
  · have := Nat.mod_lt u (show 0 < L + 1 by omega)
    omega
theorem small_wrap3 (d : Nat) (h : d ≤ 2) : wrap64 (d : Int) = d := IntWalk.wrap64_in _ (by constructor <;> omega)
theorem small_mod3 (v : Nat) : wrap64 ((v % 3 : Nat) : Int) = ((v % 3 : Nat) : Int) := IntWalk.wrap64_in _ (by constructor <;> omega)
theorem Rz_k {k : Nat} (h : k ≤ 9) : k + 1 ≤ 12 := by omega
theorem Rz_k1 {k : Nat} (h : k ≤ 9) : k < 100 := by omega
theorem Rz_k2 {k : Nat} (h : k ≤ 9) : k ≤ 100 := by omega
theorem Rz_M {M : Int} {k : Nat} (h : M ≤ 1000 + 4 * k) {M' : Int} (h' : M' ≤ M + 3) : M' ≤ 1000 + 4 * ((k + 1 : Nat) : Int) := by omega
theorem Rz_M2 {M : Int} {k : Nat} (h : M ≤ 1000 + 4 * k) (hk : k ≤ 9) : M ≤ 1990 := by omega
theorem Rz_M3 {M : Int} {k : Nat} (h : M ≤ 1000 + 4 * k) (hk : k ≤ 9) : M + 2 ≤ 1990 := by omega
theorem Rz_len {la : List Int} {i n m : Nat} (h : i ≤ n) (h1 : n < m) (h2 : m < la.length) : i < la.length := by omega
theorem Rz_p3 (M : Int) : M + 2 + 1 ≤ M + 3 := by omega
theorem Rz_s {s M : Int} {n : Nat} (h : 0 ≤ s ∧ s ≤ M) (hM : 0 ≤ M ∧ M ≤ 2000) (hn : n ≤ 10) : s + n < 4611686018427387904 := by omega
theorem Rz_val {la : List Int} {M : Int} {n : Nat} {j : Int} (h : ∀ j, j ≤ n → la.getD j 0 ≤ M) (hM : 0 ≤ M ∧ M ≤ 2000) (hj : j ∈ idsN n) : valAt la j ≤ 9223372036854775807 := by
  simp only [idsN, List.mem_map, List.mem_range] at hj
  obtain ⟨i, hi, rfl⟩ := hj
  have := h (i + 1) hi
  rw [valAt, show (((i + 1 : Nat) : Int)).toNat = i + 1 by omega]
  omega
theorem blk9 {c : Nat → Nat} {k : Nat} {w : World} {y : Nat} {v0 v1 v2 v3 v4 v5 v6 v7 v8 : Value} {t : TypeId} (h : Blk c k w y [v0, v1, v2, v3, v4, v5, v6, v7, v8] t) : w.cell? ⟨y, 0, none⟩ = some v0 ∧ w.cell? ⟨y, 1, none⟩ = some v1 ∧ w.cell? ⟨y, 2, none⟩ = some v2 ∧ w.cell? ⟨y, 3, none⟩ = some v3 ∧ w.cell? ⟨y, 4, none⟩ = some v4 ∧ w.cell? ⟨y, 5, none⟩ = some v5 ∧ w.cell? ⟨y, 6, none⟩ = some v6 ∧ w.cell? ⟨y, 7, none⟩ = some v7 ∧ w.cell? ⟨y, 8, none⟩ = some v8 ∧ y < w.heap.size :=
  ⟨by simpa using h.cell 0, by simpa using h.cell 1, by simpa using h.cell 2, by simpa using h.cell 3, by simpa using h.cell 4, by simpa using h.cell 5, by simpa using h.cell 6, by simpa using h.cell 7, by simpa using h.cell 8, h.lt⟩

def RzRel (w0 : World) (p : Pln) (ao : Option Addr) (cap : Nat) (so : Option Addr) (scap : Nat) (x q b g y : Nat) (bv : Option Addr) (B : Bar) (next : Int) (i : Value) (wr : World) : Prop :=
  ∃ (k : Nat) (M : Int) (la : List Int) (s : Int) (pr : Pr) (po : Option Addr) (pcap : Nat) (c : Nat → Nat), i = .int .i64 k ∧ Hid (M ≤ 1000 + 4 * k) ∧ Hid (k ≤ 12) ∧ Hid (RzAt w0 p ao cap so scap x q b g y bv B next k M la s pr po pcap c wr)

set_option maxRecDepth 100000 in
set_option maxHeartbeats 2000000 in
theorem rises_walk (p : Pln) (ao : Option Addr) (cap : Nat) (so : Option Addr) (scap : Nat) (next : Int) (mo : Option Addr) (N mcap : Nat) (more : List Int) (w : World) (hi : PlnIn w p ao cap so scap) (hm : In (fun _ => 0) 0 w 1 mo N mcap (more.map (Value.int .u8))) (hmo : ∀ t ∈ more, 0 ≤ t ∧ t ≤ 255) :
    Calls Tryd.prog 3 #[.agg #[.int .i64 p.cursor, .slice ao p.after.length cap, .bool p.buffer, .slice so p.shown.length scap, .int .i64 p.alert, .int .u8 p.shift], .int .i64 next, .slice mo N mcap] w fun e w' => e = .returned (.bool true) ∧ Below w.heap.size w w' := by
  obtain ⟨x, hx⟩ : ∃ x, x = w.heap.size := ⟨_, rfl⟩
  obtain ⟨cx, B⟩ : ∃ cx, Hid (B0 w p ao cap so scap x cx (w.alloc (.cells #[.int .i64 p.cursor, .slice ao p.after.length cap, .bool p.buffer, .slice so p.shown.length scap, .int .i64 p.alert, .int .u8 p.shift] 25))) := ⟨_, Lib.hid (by rw [hx]; exact B0.start p ao cap so scap w)⟩
  have Hi := Lib.hid hi
  have Hm := Lib.hid hm
  have Hmo := Lib.hid hmo
  have HmN := Lib.hid (show more.length = N by simpa using hm.1)
  clear hi hm hmo
  go_enter Tryd.func3, Tryd.ntmps3
  go_wp2_with fail
  refine (begun_c Hi.out p rfl rfl rfl B.out).mono ?_
  rw [← hx]
  clear hx
  rintro e w1 ⟨c1, B1, h⟩
  rcases h with rfl | ⟨q, b, g, bv, la, left, al, s, lo, lcap, rfl, M⟩
  · go_wp2_with fail
    refine (awake12_c B1.out).mono ?_
    rintro e w2 ⟨rfl, c2, B2, -⟩
    go_wp2
    go_ret
    exact ⟨by simp, B2.out.st.fin⟩
  · obtain ⟨x0, x1, x2, x3, x4, -, xl⟩ := B1.out.cs
    by_cases hn : 0 ≤ next ∧ next ≤ 1000 ∧ p.buffer = false ∧ p.alert = 0 ∧ N ≤ 30
    · obtain ⟨hn0, hn1, hb, hal, hN⟩ := hn
      have n1 : decide (next < 0) = false := by simp; omega
      have n2 : decide ((1000 : Int) < next) = false := by simp; omega
      have n3 : decide ((30 : Int) < (N : Int)) = false := by simp; omega
      have Hn := Lib.hid (show 0 ≤ next ∧ next ≤ 1000 from ⟨hn0, hn1⟩)
      have HN := Lib.hid hN
      rw [hb] at x2
      rw [hal] at x4
      have HB := Lib.hid (show (p.bar al).buf = none by simp [Pln.bar, Pln.buf, hb])
      have HA := Lib.hid (show la.getD (p.bar al).al 0 ≠ 1 by rw [show (p.bar al).al = al from rfl, M.out.be.vl, hal]; decide)
      clear hn0 hn1 hb hal hN
      go_wp2_with fail
      refine (bprobe_any (some ⟨b, 0, none⟩) next c1 _).mono ?_
      rintro e w2 ⟨rfl, c2, t2⟩
      obtain ⟨y, hy⟩ : ∃ y, y = w2.heap.size := ⟨_, rfl⟩
      obtain ⟨c3, hc3, T3⟩ := (t2.alloc (.cells #[.pointer (some ⟨b, 0, none⟩), .int .i64 next, .int .i64 0, .slice none 0 0, .int .i64 0, .int .i64 0, .int .i64 0, .int .i64 0, .bool false] 35) 8).name
      have R3 := Lib.hid (show RzAt w p ao cap so scap x q b g y bv (p.bar al) next 0 1000 la s (Pr.start next) none 0 c3 (w2.alloc (.cells #[.pointer (some ⟨b, 0, none⟩), .int .i64 next, .int .i64 0, .slice none 0 0, .int .i64 0, .int .i64 0, .int .i64 0, .int .i64 0, .bool false] 35)) from
        ⟨B1.out.stp T3.out (fun _ h => h.elim), M.out.ar.stp T3.out id, by have := M.out.s0; omega, M.out.br.stp T3.out id id id, by rw [hc3.out, hy]; exact Blk.new c2 8 w2 _ _, In.nil _ _ _ _ _, M.out.be.ok M.out.ok, PrOK.start (by have := Hn.out; omega), RInv.start, HA.out, fun j hj => (Rz_bd M.out.be M.out.ok j hj).2, by decide, fun j hj => (Rz_bd M.out.be M.out.ok j hj).1⟩)
      have Hal := Lib.hid (show (p.bar al).al ≠ 0 ∧ p.after.length < (p.bar al).al ∧ (p.bar al).ids.length = p.after.length ∧ p.after.length ≤ 8 ∧ la.length = al + 1 from ⟨by have := M.out.be.lo; show al ≠ 0; omega, by have := M.out.be.lo; show p.after.length < al; omega, idsN_len _, M.out.ok.an, M.out.be.len⟩)
      clear t2 hc3 T3 B1 x0 x1 x2 x3 x4 xl
      go_wp2_with fail
      rw [← hy]
      clear hy
      go_loopw [12] (fun i wr => RzRel w p ao cap so scap x q b g y bv (p.bar al) next i wr) (fun i _ => 100 - (intOf i).toNat)
      case atStart => exact ⟨0, 1000, la, s, Pr.start next, none, 0, c3, rfl, Lib.hid (by decide), Lib.hid (by decide), R3.out⟩
      case round =>
        obtain ⟨k, MM, la1, s1, pr, po, pcap, c4, rfl, HM, Hk, R⟩ := hrel
        have hsh := R.out.iv.short
        obtain ⟨⟨y0, y1, y2, y3, y4, y5, y6, y7, y8⟩, -, yl, x1, xl⟩ := R.out.cs
        cases hf : pr.fin with
        | true =>
          rw [hf] at y8
          have Hf := Lib.hid hf
          clear hf hsh
          go_wp2_with fail
          refine (R.out.done_c Hf.out).mono ?_
          rintro e w5 ⟨rfl, c5, R5⟩
          obtain ⟨n, r, he, hn2, hrn, hrs, hrp⟩ := plain_look (la := la1) (B := p.bar al) next HB.out R5.out.al
          have He := Lib.hid he
          have Hrs := Lib.hid (show r.sign ≠ 1 by rw [hrs]; exact R5.out.al)
          have Hle := Lib.hid (show max pr.pos (pr.next - 1) ≤ r.avail by
            have h1 := R5.out.iv.look Hf.out he hrn hrp (fun j hj => Rz_val R5.out.bd R5.out.mb hj)
            rw [Pr.avail, if_pos Hf.out] at h1
            exact h1)
          have Hn3 := Lib.hid (show n ≤ 10 by have := Hal.out; omega)
          clear he hn2 hrn hrs hrp y0 y1 y2 y3 y4 y5 y6 y7 y8 R x1 xl yl
          go_wp2_with fail
          refine (blook_ok R5.out.ar R5.out.br R5.out.ok (by have := Hn.out; omega) He.out R5.out.s0.1 (Rz_s R5.out.s0 R5.out.mb Hn3.out)).mono ?_
          rintro e w6 ⟨ev, rfl, c6, t6, a6, h⟩
          rcases h with ⟨h, -⟩ | ⟨-, rfl⟩
          · exact absurd h Hrs.out
          have B6 := Lib.hid (R5.out.b0.stp t6 (fun _ h => by omega))
          have P6 := Lib.hid (R5.out.pb.stp t6 (by decide))
          have Hnx := Lib.hid R5.out.po.nx
          have Hst := Lib.hid (show pr.fin = true from Hf.out)
          clear t6 a6 R5
          go_wp2_with fail
          refine (awake12_c B6.out).mono ?_
          rintro e w7 ⟨rfl, c7, B7, T7⟩
          have P7 := Lib.hid (P6.out.stp T7.out (by decide))
          clear B6 P6 T7
          obtain ⟨z0, z1, z2, z3, z4, z5, z6, z7, z8, zl⟩ := blk9 P7.out
          rw [Hf.out] at z8
          go_wp2_with fail
          refine (prdone_any _ _ _ _ _ _ _ _ _ _ c7 ⟨b, 0, none⟩ _).mono ?_
          rintro e w8 ⟨rfl, c8, t8⟩
          have B8 := Lib.hid (B7.out.stp t8 (fun _ h => h.elim))
          have P8 := Lib.hid (P7.out.stp t8 id)
          clear t8 B7 P7 z0 z1 z2 z3 z4 z5 z6 z7 z8 zl
          obtain ⟨z0, z1, z2, z3, z4, z5, z6, z7, z8, zl⟩ := blk9 P8.out
          rw [Hf.out] at z8
          go_wp2_with fail
          refine (pravail_any _ _ _ _ _ _ _ _ _ _ _ c8 (by have := Hnx.out; omega) _).mono ?_
          rintro e w9 ⟨rfl, c9, t9⟩
          have B9 := Lib.hid (B8.out.stp t9 (fun _ h => h.elim))
          rw [if_pos rfl]
          have hle : decide (max pr.pos (pr.next - 1) ≤ r.avail) = true := decide_eq_true Hle.out
          clear t9 B8 P8 z0 z1 z2 z3 z4 z5 z6 z7 z8 zl
          go_wp2
          go_ret
          exact ⟨by first | rfl | simp, B9.out.st.fin⟩
        | false =>
          rw [hf] at y8
          have Hf := Lib.hid hf
          have Hk9 := Lib.hid (show k ≤ 9 by have := hsh hf; have := Hal.out; omega)
          clear hf hsh
          go_wp2_with fail
          refine (R.out.done_c Hf.out).mono ?_
          rintro e w5 ⟨rfl, c5, R5⟩
          clear y0 y1 y2 y3 y4 y5 y6 y7 y8 R x1 xl yl
          obtain ⟨⟨y0, y1, y2, y3, y4, y5, y6, y7, y8⟩, -, yl, x1, xl⟩ := R5.out.cs
          rw [Hf.out] at y8
          by_cases hN0 : 0 < N
          · have hrl : k % N < N := Nat.mod_lt _ hN0
            obtain ⟨a, ha, hca⟩ := (Hm.out.stp R5.out.b0.st (by decide)).ints hrl
            subst ha
            obtain ⟨v, hv⟩ : ∃ v : Int, more.getD (k % N) 0 = v := ⟨_, rfl⟩
            have hv2 : 0 ≤ v ∧ v ≤ 255 := by
              rw [← hv]
              exact Hmo.out _ (by simp [List.getD, HmN.out, hrl])
            rw [hv] at hca
            obtain ⟨L, hL⟩ : ∃ L, L = p.after.length := ⟨_, rfl⟩
            rw [← hL] at x1
            obtain ⟨id, d, F3, F5, Hid1, Hd⟩ := Rz_mods v L hv2
            have Hal' := Lib.hid (show (p.bar al).al < la1.length from R5.out.ok.al)
            have F1 := Lib.hid (small_int v hv2)
            have F2 := Lib.hid (small_wrap L (by rw [hL]; have := Hal.out; omega))
            have F4 := Lib.hid (small_wrap3 d Hd.out)
            have HL := Lib.hid hL
            have HN0 := Lib.hid hN0
            have hN1 : decide ((0 : Int) < (N : Int)) = true := by simpa using hN0
            have hrl2 : ((k % N : Nat) : Int) < (N : Int) := by omega
            have Hk100 : decide ((k : Int) < 100) = true := by simp; have := Hk9.out; omega
            have W8 := small_wrap k (by have := Hk9.out; omega)
            have E1 := F1.out
            have E2 := F2.out
            have E3 := F3.out
            have E4 := F4.out
            have E5 := F5.out
            clear hv hv2 hL
            go_upto_region 9 with fail
            go_quiet (fail)
            go_wp2_with fail
            refine (RzAt.rise (R5.out.stpF (Stp.refl (fun _ => False) _ _ |>.drewN _)) (j := id) (d := (d : Int)) ⟨Int.natCast_nonneg _, Int.ofNat_le.2 Hd.out⟩ (Nat.ne_of_lt (Nat.lt_of_le_of_lt (by rw [← HL.out]; exact Hid1.out) Hal.out.2.1)) (by rw [← HL.out]; exact Hid1.out) (Rz_len (by rw [← HL.out]; exact Hid1.out) Hal.out.2.1 Hal'.out) (Rz_M2 HM.out Hk9.out)).mono ?_
            rintro e w6 ⟨V6, c6, la6, rfl, R6⟩
            obtain ⟨⟨y0, y1, y2, y3, y4, y5, y6, y7, y8⟩, -, yl, -, -⟩ := R6.out.cs
            rw [Hf.out] at y8
            have HM6 := Lib.hid (show MM + 2 ≤ 1990 from Rz_M3 HM.out Hk9.out)
            have HMM := Lib.hid (show MM + 2 + 1 ≤ MM + 3 from Rz_p3 MM)
            clear R5
            go_wp2_with fail
            refine (R6.out.step_c Hf.out HM6.out).mono ?_
            rintro e w7 ⟨po7, pcap7, c7, rfl, R7, I7⟩
            have R8 := Lib.hid (R7.out.lay Hf.out HB.out I7.out)
            obtain ⟨⟨y0, y1, y2, y3, y4, y5, y6, y7, y8⟩, ⟨f0, f1, f2, f3, f4, f5, f6, f7, f8⟩, yl, -, -⟩ := R7.out.cs
            have R9 := Lib.hid (R8.out.stpF ((Stp.refl (fun _ => False) _ _).alloc (.cells #[.pointer (some ⟨b, 0, none⟩), .int .i64 (stepP (p.bar al) la6 pr).next, .int .i64 ((stepP (p.bar al) la6 pr).stage : Int), .slice po7 (stepP (p.bar al) la6 pr).ids.length pcap7, .int .i64 (stepP (p.bar al) la6 pr).most, .int .i64 (stepP (p.bar al) la6 pr).hi, .int .i64 (stepP (p.bar al) la6 pr).pos, .int .i64 (stepP (p.bar al) la6 pr).sign, .bool (stepP (p.bar al) la6 pr).fin] 35) 0))
            clear R6 R8 R7 I7
            go_wp2
            go_roundw
            case rel => exact ⟨k + 1, _, _, _, _, po7, pcap7, _, by go_num, Lib.hid (Rz_M HM.out HMM.out), Lib.hid (Rz_k Hk9.out), R9.out⟩
            case measure => exact meas_w _ k (Rz_k1 Hk9.out) (Rz_k2 Hk9.out)
          · have hN1 : decide ((0 : Int) < (N : Int)) = false := by simp; omega
            have R6 := R5
            have HM6 := Lib.hid (show MM ≤ 1990 from Rz_M2 HM.out Hk9.out)
            have HMM := Lib.hid (show MM + 1 ≤ MM + 3 by omega)
            clear R5
            have Hk100 : decide ((k : Int) < 100) = true := by simp; have := Hk9.out; omega
            have W8 := small_wrap k (by have := Hk9.out; omega)
            go_wp2_with fail
            refine (R6.out.step_c Hf.out HM6.out).mono ?_
            rintro e w7 ⟨po7, pcap7, c7, rfl, R7, I7⟩
            have R8 := Lib.hid (R7.out.lay Hf.out HB.out I7.out)
            obtain ⟨⟨y0, y1, y2, y3, y4, y5, y6, y7, y8⟩, ⟨f0, f1, f2, f3, f4, f5, f6, f7, f8⟩, yl, -, -⟩ := R7.out.cs
            have R9 := Lib.hid (R8.out.stpF ((Stp.refl (fun _ => False) _ _).alloc (.cells #[.pointer (some ⟨b, 0, none⟩), .int .i64 (stepP (p.bar al) la1 pr).next, .int .i64 ((stepP (p.bar al) la1 pr).stage : Int), .slice po7 (stepP (p.bar al) la1 pr).ids.length pcap7, .int .i64 (stepP (p.bar al) la1 pr).most, .int .i64 (stepP (p.bar al) la1 pr).hi, .int .i64 (stepP (p.bar al) la1 pr).pos, .int .i64 (stepP (p.bar al) la1 pr).sign, .bool (stepP (p.bar al) la1 pr).fin] 35) 0))
            clear R6 R8 R7 I7
            go_wp2
            go_roundw
            case rel => exact ⟨k + 1, _, _, _, _, po7, pcap7, _, by go_num, Lib.hid (Rz_M HM.out HMM.out), Lib.hid (Rz_k Hk9.out), R9.out⟩
            case measure => exact meas_w _ k (Rz_k1 Hk9.out) (Rz_k2 Hk9.out)
    · rcases (show decide (next < 0) = true ∨ (decide (next < 0) = false ∧ decide ((1000 : Int) < next) = true) ∨ (decide (next < 0) = false ∧ decide ((1000 : Int) < next) = false ∧ p.buffer = true) ∨ (decide (next < 0) = false ∧ decide ((1000 : Int) < next) = false ∧ p.buffer = false ∧ (p.alert != 0) = true) ∨ (decide (next < 0) = false ∧ decide ((1000 : Int) < next) = false ∧ p.buffer = false ∧ (p.alert != 0) = false ∧ decide ((30 : Int) < (N : Int)) = true) by
        cases hb : p.buffer with
        | true => simp; omega
        | false => rw [hb] at hn; simp at hn ⊢; omega) with u1 | ⟨u1, u2⟩ | ⟨u1, u2, u3⟩ | ⟨u1, u2, u3, u4⟩ | ⟨u1, u2, u3, u4, u5⟩
      all_goals
        clear hn
        try rw [u3] at x2
        try clear u3
        go_wp2_with fail
        refine (awake12_c B1.out).mono ?_
        rintro e w2 ⟨rfl, c2, B2, -⟩
        go_wp2
        go_ret
        exact ⟨by simp, B2.out.st.fin⟩
end Go.Proofs.YtoifknfmamcimaaDoor
