/- The walk of BarrierProbes. No condition but that the table of math/bits holds what the program lays there. -/
import Derived.Test.YtoifknfmamcimaaDoorRises
import Derived.Deep.QuietTactic
namespace Go.Proofs.YtoifknfmamcimaaDoor
open Go.RowKit

theorem stepP_sign {B : Bar} {la : List Int} {v : Int} {p : Pr} (h : p.sign = v ∧ (p.fin = true ∨ p.stage ≠ 0)) : (stepP B la p).sign = v ∧ ((stepP B la p).fin = true ∨ (stepP B la p).stage ≠ 0) := by
  unfold stepP
  split
  · exact h
  · rename_i hf
    have h0 : p.stage ≠ 0 := by rcases h.2 with h | h; exact absurd h hf; exact h
    rw [if_neg h0]
    split
    · split
      · exact ⟨h.1, .inl rfl⟩
      · exact ⟨h.1, .inr (Nat.succ_ne_zero _)⟩
    · split
      · split
        · exact ⟨h.1, .inl rfl⟩
        · exact ⟨h.1, .inr (Nat.succ_ne_zero _)⟩
      · split
        · exact h
        · split
          · exact ⟨h.1, .inl rfl⟩
          · split
            · exact ⟨h.1, .inl rfl⟩
            · exact ⟨h.1, .inr (Nat.succ_ne_zero _)⟩

theorem sign_it {B : Bar} {la : List Int} {v : Int} (hv : la.getD B.al 0 = v) (next : Int) : ∀ j, (itP B la (j + 1) (Pr.start next)).sign = v ∧ ((itP B la (j + 1) (Pr.start next)).fin = true ∨ (itP B la (j + 1) (Pr.start next)).stage ≠ 0)
  | 0 => by
    by_cases h1 : la.getD B.al 0 = 1
    · rw [show itP B la (0 + 1) (Pr.start next) = _ from (ends_alert next h1).eq]
      exact ⟨by rw [← hv, h1], .inl rfl⟩
    · rw [show itP B la (0 + 1) (Pr.start next) = stepP B la (Pr.start next) from rfl, start_go next hv (by rw [← hv]; exact h1)]
      refine ⟨rfl, .inr ?_⟩
      show (if B.ids = [] then 2 else 1) ≠ 0
      split <;> decide
  | j + 1 => by
    rw [itP_last]
    exact stepP_sign (sign_it hv next j)

theorem it_next {B : Bar} {la : List Int} (next : Int) : ∀ j, (itP B la j (Pr.start next)).next = next
  | 0 => rfl
  | j + 1 => by rw [itP_last, stepP_next]; exact it_next next j

theorem meas_w2 (m j : Nat) (h : j < m) (hm : j ≤ 5000) : m - (intOf (.int .i64 (wrap64 ((j : Int) + 1)))).toNat < m - (intOf (.int .i64 (j : Int))).toNat := by
  rw [show wrap64 ((j : Int) + 1) = (j : Int) + 1 from IntWalk.wrap64_in _ (by constructor <;> omega)]
  show m - ((j : Int) + 1).toNat < m - (j : Int).toNat
  omega

set_option maxRecDepth 100000 in
theorem pstep_nilp (b : Nat) (next : Int) (c : Nat → Nat) (w : World) :
    Calls Tryd.prog 18 #[.agg #[.pointer (some ⟨b, 0, none⟩), .int .i64 next, .int .i64 0, .slice none 0 0, .int .i64 0, .int .i64 0, .int .i64 0, .int .i64 0, .bool false], .pointer none] w fun e w' => e = .returned (.tuple #[.agg #[.pointer (some ⟨b, 0, none⟩), .int .i64 next, .int .i64 0, .slice none 0 0, .int .i64 0, .int .i64 0, .int .i64 0, .int .i64 0, .bool false], .iface 119 (.int .i64 2)]) ∧ ∃ c', Stp (fun _ => False) c c' w w' := by
  have S := Lib.hid (((Stp.refl (fun _ => False) c w).alloc (.cells #[.pointer (some ⟨b, 0, none⟩), .int .i64 next, .int .i64 0, .slice none 0 0, .int .i64 0, .int .i64 0, .int .i64 0, .int .i64 0, .bool false] 35) 0).alloc (.cells #[.pointer (some ⟨b, 0, none⟩), .int .i64 next, .int .i64 0, .slice none 0 0, .int .i64 0, .int .i64 0, .int .i64 0, .int .i64 0, .bool false] 35) 0)
  go_enter Tryd.func18, Tryd.ntmps18
  go_wp2
  exact bodyPost_ret (v := .tuple #[.agg #[.pointer (some ⟨b, 0, none⟩), .int .i64 next, .int .i64 0, .slice none 0 0, .int .i64 0, .int .i64 0, .int .i64 0, .int .i64 0, .bool false], .iface 119 (.int .i64 2)]) (by simp [results, Tryd.results18, go_sem]) rfl ⟨rfl, _, S.out⟩

/-- Probes, part of the way. -/
structure PbAt (w0 : World) (p : Pln) (ao : Option Addr) (cap : Nat) (so : Option Addr) (scap : Nat) (x q b g y : Nat) (bv : Option Addr) (B : Bar) (la : List Int) (s : Int) (pr : Pr) (po : Option Addr) (pcap : Nat) (c : Nat → Nat) (w : World) : Prop where
  b0 : B0 w0 p ao cap so scap x c w
  ar : ArenaAt c 2 w q la s
  br : BarIs c 3 w b g bv B
  pb : Blk c 8 w y [.pointer (some ⟨b, 0, none⟩), .int .i64 pr.next, .int .i64 (pr.stage : Int), .slice po pr.ids.length pcap, .int .i64 pr.most, .int .i64 pr.hi, .int .i64 pr.pos, .int .i64 pr.sign, .bool pr.fin] 35
  sc : In c 6 w 1 po pr.ids.length pcap (pr.ids.map (Value.int .i64))
  ok : BarOK la B
  po : PrOK la B pr

section
variable {w0 : World} {p : Pln} {ao : Option Addr} {cap : Nat} {so : Option Addr} {scap : Nat} {x q b g y : Nat} {bv : Option Addr} {B : Bar} {la : List Int} {s : Int} {pr : Pr} {po : Option Addr} {pcap : Nat} {c c' : Nat → Nat} {w w' : World}
theorem PbAt.stpF (h : PbAt w0 p ao cap so scap x q b g y bv B la s pr po pcap c w) (t : Stp (fun _ => False) c c' w w') : PbAt w0 p ao cap so scap x q b g y bv B la s pr po pcap c' w' :=
  ⟨h.b0.stp t (fun _ h => h.elim), h.ar.stp t id, h.br.stp t id id id, h.pb.stp t id, h.sc.stp t id, h.ok, h.po⟩
theorem PbAt.stp12 (h : PbAt w0 p ao cap so scap x q b g y bv B la s pr po pcap c w) (t : Stp (12 ≤ ·) c c' w w') : PbAt w0 p ao cap so scap x q b g y bv B la s pr po pcap c' w' :=
  ⟨h.b0.stp t (fun _ h => by omega), h.ar.stp t (by decide), h.br.stp t (by decide) (by decide) (by decide), h.pb.stp t (by decide), h.sc.stp t (by decide), h.ok, h.po⟩
theorem PbAt.done_c (h : PbAt w0 p ao cap so scap x q b g y bv B la s pr po pcap c w) {fb : Bool} (hfb : pr.fin = fb) :
    Calls Tryd.prog 16 #[.agg #[.pointer (some ⟨b, 0, none⟩), .int .i64 pr.next, .int .i64 (pr.stage : Int), .slice po pr.ids.length pcap, .int .i64 pr.most, .int .i64 pr.hi, .int .i64 pr.pos, .int .i64 pr.sign, .bool fb]] w fun e w' => e = .returned (.bool fb) ∧ ∃ c', Hid (PbAt w0 p ao cap so scap x q b g y bv B la s pr po pcap c' w') := by
  subst hfb
  refine (prdone_any _ _ _ _ _ _ _ _ _ _ c ⟨b, 0, none⟩ w).mono ?_
  rintro e w' ⟨rfl, c', t⟩
  exact ⟨rfl, c', Lib.hid (h.stpF t)⟩
theorem PbAt.avail_c (h : PbAt w0 p ao cap so scap x q b g y bv B la s pr po pcap c w) {fb : Bool} (hfb : pr.fin = fb) {v : Int} (hv : pr.avail = v) :
    Calls Tryd.prog 20 #[.agg #[.pointer (some ⟨b, 0, none⟩), .int .i64 pr.next, .int .i64 (pr.stage : Int), .slice po pr.ids.length pcap, .int .i64 pr.most, .int .i64 pr.hi, .int .i64 pr.pos, .int .i64 pr.sign, .bool fb]] w fun e w' => e = .returned (.int .i64 v) ∧ ∃ c', Hid (PbAt w0 p ao cap so scap x q b g y bv B la s pr po pcap c' w') := by
  subst hfb
  have hn := h.po.nx
  refine (pravail_any _ _ _ _ _ _ _ _ _ _ _ c (by omega) w).mono ?_
  rintro e w' ⟨rfl, c', t⟩
  exact ⟨by rw [← hv]; rfl, c', Lib.hid (h.stpF t)⟩
theorem PbAt.sign_c (h : PbAt w0 p ao cap so scap x q b g y bv B la s pr po pcap c w) {fb : Bool} (hfb : pr.fin = fb) :
    Calls Tryd.prog 36 #[.agg #[.pointer (some ⟨b, 0, none⟩), .int .i64 pr.next, .int .i64 (pr.stage : Int), .slice po pr.ids.length pcap, .int .i64 pr.most, .int .i64 pr.hi, .int .i64 pr.pos, .int .i64 pr.sign, .bool fb]] w fun e w' => e = .returned (.int .i64 pr.sign) ∧ ∃ c', Hid (PbAt w0 p ao cap so scap x q b g y bv B la s pr po pcap c' w') := by
  subst hfb
  refine (prsign_any _ _ _ _ _ _ _ _ _ _ _ c w).mono ?_
  rintro e w' ⟨rfl, c', t⟩
  exact ⟨rfl, c', Lib.hid (h.stpF t)⟩
theorem PbAt.cs (h : PbAt w0 p ao cap so scap x q b g y bv B la s pr po pcap c w) : (w.cell? ⟨y, 0, none⟩ = some (.pointer (some ⟨b, 0, none⟩)) ∧ w.cell? ⟨y, 1, none⟩ = some (.int .i64 pr.next) ∧ w.cell? ⟨y, 2, none⟩ = some (.int .i64 (pr.stage : Int)) ∧ w.cell? ⟨y, 3, none⟩ = some (.slice po pr.ids.length pcap) ∧ w.cell? ⟨y, 4, none⟩ = some (.int .i64 pr.most) ∧ w.cell? ⟨y, 5, none⟩ = some (.int .i64 pr.hi) ∧ w.cell? ⟨y, 6, none⟩ = some (.int .i64 pr.pos) ∧ w.cell? ⟨y, 7, none⟩ = some (.int .i64 pr.sign) ∧ w.cell? ⟨y, 8, none⟩ = some (.bool pr.fin)) ∧ (w.frozen? ⟨y, 0, none⟩ = false ∧ w.frozen? ⟨y, 1, none⟩ = false ∧ w.frozen? ⟨y, 2, none⟩ = false ∧ w.frozen? ⟨y, 3, none⟩ = false ∧ w.frozen? ⟨y, 4, none⟩ = false ∧ w.frozen? ⟨y, 5, none⟩ = false ∧ w.frozen? ⟨y, 6, none⟩ = false ∧ w.frozen? ⟨y, 7, none⟩ = false ∧ w.frozen? ⟨y, 8, none⟩ = false) ∧ y < w.heap.size ∧ w.cell? ⟨x, 4, none⟩ = some (.int .i64 p.alert) ∧ x < w.heap.size :=
  ⟨⟨by simpa using h.pb.cell 0, by simpa using h.pb.cell 1, by simpa using h.pb.cell 2, by simpa using h.pb.cell 3, by simpa using h.pb.cell 4, by simpa using h.pb.cell 5, by simpa using h.pb.cell 6, by simpa using h.pb.cell 7, by simpa using h.pb.cell 8⟩, ⟨h.pb.free 0, h.pb.free 1, h.pb.free 2, h.pb.free 3, h.pb.free 4, h.pb.free 5, h.pb.free 6, h.pb.free 7, h.pb.free 8⟩, h.pb.lt, h.b0.cs.2.2.2.2.1, h.b0.cs.2.2.2.2.2.2⟩
theorem PbAt.sign_x (h : PbAt w0 p ao cap so scap x q b g y bv B la s pr po pcap c w) {v : Int} (hv : pr.sign = v) :
    Calls Tryd.prog 36 #[.agg #[.pointer (some ⟨b, 0, none⟩), .int .i64 pr.next, .int .i64 (pr.stage : Int), .slice po pr.ids.length pcap, .int .i64 pr.most, .int .i64 pr.hi, .int .i64 pr.pos, .int .i64 pr.sign, .bool pr.fin]] w fun e w' => e = .returned (.int .i64 v) ∧ ∃ c', Hid (PbAt w0 p ao cap so scap x q b g y bv B la s pr po pcap c' w') ∧ w'.cell? ⟨x, 4, none⟩ = some (.int .i64 p.alert) ∧ w'.cell? ⟨y, 0, none⟩ = some (.pointer (some ⟨b, 0, none⟩)) ∧ w'.cell? ⟨y, 1, none⟩ = some (.int .i64 pr.next) ∧ w'.cell? ⟨y, 2, none⟩ = some (.int .i64 (pr.stage : Int)) ∧ w'.cell? ⟨y, 3, none⟩ = some (.slice po pr.ids.length pcap) ∧ w'.cell? ⟨y, 4, none⟩ = some (.int .i64 pr.most) ∧ w'.cell? ⟨y, 5, none⟩ = some (.int .i64 pr.hi) ∧ w'.cell? ⟨y, 6, none⟩ = some (.int .i64 pr.pos) ∧ w'.cell? ⟨y, 7, none⟩ = some (.int .i64 pr.sign) ∧ w'.cell? ⟨y, 8, none⟩ = some (.bool pr.fin) := by
  subst hv
  refine (prsign_any _ _ _ _ _ _ _ _ _ _ _ c w).mono ?_
  rintro e w' ⟨rfl, c', t⟩
  exact ⟨rfl, c', Lib.hid (h.stpF t), (h.stpF t).b0.cs.2.2.2.2.1, (h.stpF t).cs.1⟩
/-- A step of the probe: what it hands back, ahead of its being laid into the box. -/
theorem PbAt.step_c (h : PbAt w0 p ao cap so scap x q b g y bv B la s pr po pcap c w) (hf : pr.fin = false) (h0 : 0 ≤ s) (h1 : s < 4611686018427387904) :
    Calls Tryd.prog 18 #[.agg #[.pointer (some ⟨b, 0, none⟩), .int .i64 pr.next, .int .i64 (pr.stage : Int), .slice po pr.ids.length pcap, .int .i64 pr.most, .int .i64 pr.hi, .int .i64 pr.pos, .int .i64 pr.sign, .bool false], .pointer (some ⟨q, 0, none⟩)] w fun e w' => ∃ po' pcap' c', e = .returned (.tuple #[prV b (stepP B la pr) po' pcap', .nilIface]) ∧ Hid (PbAt w0 p ao cap so scap x q b g y bv B la (s + 1) pr po pcap c' w') ∧ Hid (In c' 6 w' 1 po' (stepP B la pr).ids.length pcap' ((stepP B la pr).ids.map (Value.int .i64))) := by
  rw [← hf]
  refine (pstep_c h.ar h.br h.sc h.ok h.po hf h0 h1).mono ?_
  rintro e w' ⟨po', pcap', rfl, c', t, a, i⟩
  exact ⟨po', pcap', c', rfl, Lib.hid ⟨h.b0.stp t (fun k e => by omega), a, h.br.stp t (by decide) (by decide) (by decide), h.pb.stp t (by decide), h.sc.stp t (by decide), h.ok, h.po⟩, Lib.hid i⟩
/-- What a step handed back, laid into the box. -/
theorem PbAt.lay (h : PbAt w0 p ao cap so scap x q b g y bv B la s pr po pcap c w) {po' : Option Addr} {pcap' : Nat} (hi : In c 6 w 1 po' (stepP B la pr).ids.length pcap' ((stepP B la pr).ids.map (Value.int .i64))) :
    PbAt w0 p ao cap so scap x q b g y bv B la s (stepP B la pr) po' pcap' c (((((((((w.setCell ⟨y, 0, none⟩ (.pointer (some ⟨b, 0, none⟩))).setCell ⟨y, 1, none⟩ (.int .i64 (stepP B la pr).next)).setCell ⟨y, 2, none⟩ (.int .i64 ((stepP B la pr).stage : Int))).setCell ⟨y, 3, none⟩ (.slice po' (stepP B la pr).ids.length pcap')).setCell ⟨y, 4, none⟩ (.int .i64 (stepP B la pr).most)).setCell ⟨y, 5, none⟩ (.int .i64 (stepP B la pr).hi)).setCell ⟨y, 6, none⟩ (.int .i64 (stepP B la pr).pos)).setCell ⟨y, 7, none⟩ (.int .i64 (stepP B la pr).sign)).setCell ⟨y, 8, none⟩ (.bool (stepP B la pr).fin)) := by
  have hy := h.pb.1
  have t := (((((((((Stp.refl (· = 8) c w).setCell (p := ⟨y, 0, none⟩) (.pointer (some ⟨b, 0, none⟩)) hy).setCell (p := ⟨y, 1, none⟩) (.int .i64 (stepP B la pr).next) hy).setCell (p := ⟨y, 2, none⟩) (.int .i64 ((stepP B la pr).stage : Int)) hy).setCell (p := ⟨y, 3, none⟩) (.slice po' (stepP B la pr).ids.length pcap') hy).setCell (p := ⟨y, 4, none⟩) (.int .i64 (stepP B la pr).most) hy).setCell (p := ⟨y, 5, none⟩) (.int .i64 (stepP B la pr).hi) hy).setCell (p := ⟨y, 6, none⟩) (.int .i64 (stepP B la pr).pos) hy).setCell (p := ⟨y, 7, none⟩) (.int .i64 (stepP B la pr).sign) hy).setCell (p := ⟨y, 8, none⟩) (.bool (stepP B la pr).fin) hy
  refine ⟨h.b0.stp t (fun k e => by omega), h.ar.stp t (by decide), h.br.stp t (by decide) (by decide) (by decide), ?_, hi.stp t (by decide), h.ok, h.po.step h.ok⟩
  exact ((((((((h.pb.set 0 _).set 1 _).set 2 _).set 3 _).set 4 _).set 5 _).set 6 _).set 7 _).set 8 _
end

theorem Pb_n {next : Int} (h : 0 ≤ next ∧ next ≤ 1000) : 0 ≤ next ∧ next ≤ 4611686018427387904 := by omega
theorem Pb_s {s : Int} {n : Nat} (h : 0 ≤ s ∧ s ≤ 100) (hn : n ≤ 1020) : s + n < 4611686018427387904 := by omega

theorem Pb_w1 {next : Int} (h : 0 ≤ next ∧ next ≤ 1000) : wrap64 (next - 1) = next - 1 := IntWalk.wrap64_in _ (by constructor <;> omega)
theorem Pb_w2 {s : Int} (h : 0 ≤ s ∧ s ≤ 5000) : wrap64 (s + 1) = s + 1 := IntWalk.wrap64_in _ (by constructor <;> omega)
theorem Pb_w3 {k : Nat} (h : k ≤ 5000) : wrap64 ((k : Int) + 1) = (k : Int) + 1 := IntWalk.wrap64_in _ (by constructor <;> omega)
theorem Pb_s2 {s : Int} (h : 0 ≤ s ∧ s ≤ 5000) : s < 4611686018427387904 := by omega

theorem Pb_nx {next : Int} (h : 0 ≤ next ∧ next ≤ 4611686018427387904) : -1 ≤ next ∧ next ≤ 4611686018427387904 := by omega
theorem Pb_k {s t : Int} {k : Nat} (h : t = s + (k : Int)) : s + ((k + 1 : Nat) : Int) = t + 1 := by omega
theorem Pb_m {k n : Nat} (h : k < n) (h2 : n ≤ 1020) : k < 3000 := by omega

def PbRel (w0 : World) (p : Pln) (ao : Option Addr) (cap : Nat) (so : Option Addr) (scap : Nat) (x q b g y : Nat) (bv : Option Addr) (B : Bar) (la : List Int) (next : Int) (n : Nat) (s : Int) (i : Value) (wr : World) : Prop :=
  ∃ (k : Nat) (pr : Pr) (po : Option Addr) (pcap : Nat) (c : Nat → Nat), i = .int .i64 k ∧ Hid (k ≤ n) ∧ Hid (pr = itP B la k (Pr.start next)) ∧ Hid (PbAt w0 p ao cap so scap x q b g y bv B la (s + k) pr po pcap c wr)

set_option maxRecDepth 100000 in
set_option maxHeartbeats 2000000 in
theorem probes_walk (p : Pln) (ao : Option Addr) (cap : Nat) (so : Option Addr) (scap : Nat) (next : Int) (w : World) (hi : PlnIn w p ao cap so scap) :
    Calls Tryd.prog 7 #[.agg #[.int .i64 p.cursor, .slice ao p.after.length cap, .bool p.buffer, .slice so p.shown.length scap, .int .i64 p.alert, .int .u8 p.shift], .int .i64 next] w fun e w' => e = .returned (.bool true) ∧ Below w.heap.size w w' := by
  obtain ⟨x, hx⟩ : ∃ x, x = w.heap.size := ⟨_, rfl⟩
  obtain ⟨cx, B⟩ : ∃ cx, Hid (B0 w p ao cap so scap x cx (w.alloc (.cells #[.int .i64 p.cursor, .slice ao p.after.length cap, .bool p.buffer, .slice so p.shown.length scap, .int .i64 p.alert, .int .u8 p.shift] 25))) := ⟨_, Lib.hid (by rw [hx]; exact B0.start p ao cap so scap w)⟩
  have Hi := Lib.hid hi
  clear hi
  go_enter Tryd.func7, Tryd.ntmps7
  go_wp2_with fail
  refine (begun_c Hi.out p rfl rfl rfl B.out).mono ?_
  rw [← hx]
  clear hx
  rintro e w1 ⟨c1, B1, h⟩
  rcases h with rfl | ⟨q, b, g, bv, la, left, al, s, lo, lcap, rfl, M⟩
  · go_wp2_with fail
    refine (awake12_c B1.out).mono ?_
    rintro e w2 ⟨rfl, c2, B2, -⟩
    go_wp2
    go_ret
    exact ⟨by simp, B2.out.st.fin⟩
  · by_cases hn : 0 ≤ next ∧ next ≤ 1000
    · have n1 : decide (next < 0) = false := by simp; omega
      have n2 : decide ((1000 : Int) < next) = false := by simp; omega
      have Hn := Lib.hid hn
      have OK := Lib.hid (M.out.be.ok M.out.ok)
      obtain ⟨n, r, he, hrn, hrs, hnb⟩ := ends_any (B := p.bar al) (la := la) next
      have He := Lib.hid he
      have Hn2 := Lib.hid (show n ≤ 1020 by
        have h1 : (p.bar al).ids.length = p.after.length := idsN_len _
        have h2 := M.out.ok.an
        have h3 : la.getD (p.bar al).cur 0 = p.cursor := M.out.be.vc
        have h4 := M.out.ok.cu
        rw [h3] at hnb
        omega)
      have HV := Lib.hid (show la.getD (p.bar al).al 0 = p.alert from M.out.be.vl)
      have Hs := Lib.hid M.out.s0
      clear hn he hrn hrs hnb
      go_wp2_with fail
      refine (blook_ok M.out.ar M.out.br OK.out (Pb_n Hn.out) He.out Hs.out.1 (Pb_s Hs.out Hn2.out)).mono ?_
      rintro e w3 ⟨ev, rfl, c3, t3, a3, -⟩
      have B3 := Lib.hid (B1.out.stp t3 (fun _ h => by omega))
      have A3 := Lib.hid a3
      have R3 := Lib.hid (M.out.br.stp t3 (by decide) (by decide) (by decide))
      clear t3 a3 B1
      go_wp2_with fail
      refine (bprobe_any (some ⟨b, 0, none⟩) next c3 _).mono ?_
      rintro e w4 ⟨rfl, c4, t4⟩
      obtain ⟨y, hy⟩ : ∃ y, y = w4.heap.size := ⟨_, rfl⟩
      obtain ⟨c5, hc5, T5⟩ := (t4.alloc (.cells #[.pointer (some ⟨b, 0, none⟩), .int .i64 next, .int .i64 0, .slice none 0 0, .int .i64 0, .int .i64 0, .int .i64 0, .int .i64 0, .bool false] 35) 8).name
      obtain ⟨s1, hs1⟩ : ∃ s1, s1 = s + n := ⟨_, rfl⟩
      have P5 := Lib.hid (show PbAt w p ao cap so scap x q b g y bv (p.bar al) la s1 (Pr.start next) none 0 c5 (w4.alloc (.cells #[.pointer (some ⟨b, 0, none⟩), .int .i64 next, .int .i64 0, .slice none 0 0, .int .i64 0, .int .i64 0, .int .i64 0, .int .i64 0, .bool false] 35)) from
        ⟨B3.out.stp T5.out (fun _ h => h.elim), by rw [hs1]; exact A3.out.stp T5.out id, R3.out.stp T5.out id id id, by rw [hc5.out, hy]; exact Blk.new c4 8 w4 _ _, In.nil _ _ _ _ _, OK.out, PrOK.start (Pb_n Hn.out)⟩)
      have Hs1 := Lib.hid (show 0 ≤ s1 ∧ s1 ≤ 2000 by have := Hs.out; have := Hn2.out; omega)
      clear t4 hc5 T5 B3 A3 R3 hs1
      go_wp2_with fail
      rw [← hy]
      clear hy
      refine (P5.out.sign_c rfl).mono ?_
      rintro e w6 ⟨rfl, c6, P6⟩
      rw [show (Pr.start next).sign = 0 from rfl]
      clear P5
      go_wp2_with fail
      go_loopw [12] (fun i wr => PbRel w p ao cap so scap x q b g y bv (p.bar al) la next n s1 i wr) (fun i _ => 3000 - (intOf i).toNat)
      case atStart => exact ⟨0, Pr.start next, none, 0, c6, rfl, Lib.hid (Nat.zero_le _), Lib.hid rfl, Lib.hid (by have := P6.out; simpa using this)⟩
      case round =>
        obtain ⟨k, pr, po, pcap, c7, rfl, Hk, Hp, R⟩ := hrel
        clear P6
        obtain ⟨⟨y0, y1, y2, y3, y4, y5, y6, y7, y8⟩, -, yl, x4, xl⟩ := R.out.cs
        cases hf : pr.fin with
        | true =>
          have hkn : k = n := by
            rcases Nat.lt_or_ge k n with h | h
            · have := He.out.un k h
              rw [← Hp.out, hf] at this
              cases this
            · have := Hk.out; omega
          have Hav := Lib.hid (show pr.avail = r.avail by rw [Hp.out, hkn, He.out.eq])
          rw [hf] at y8
          have Hf := Lib.hid hf
          clear hf hkn
          go_wp2_with fail
          refine (R.out.done_c Hf.out).mono ?_
          rintro e w8 ⟨rfl, c8, R8⟩
          clear y0 y1 y2 y3 y4 y5 y6 y7 y8 yl x4 xl R
          go_wp2_with fail
          refine (steps_any R8.out.ar).mono ?_
          rintro e w9 ⟨rfl, rfl⟩
          obtain ⟨⟨y0, y1, y2, y3, y4, y5, y6, y7, y8⟩, -, yl, x4, xl⟩ := R8.out.cs
          rw [Hf.out] at y8
          go_wp2_with fail
          refine (pstep_fin pr.next pr.stage po pr.ids.length pcap pr.most pr.hi pr.pos pr.sign b q c8 _).mono ?_
          rintro e w9 ⟨rfl, c9, t9⟩
          have R9 := Lib.hid (R8.out.stpF t9)
          obtain ⟨z, hz⟩ : ∃ z, z = w9.heap.size := ⟨_, rfl⟩
          obtain ⟨c10, hc10, T10⟩ := ((Stp.refl (fun _ => False) c9 w9).alloc (.cells #[.pointer (some ⟨b, 0, none⟩), .int .i64 pr.next, .int .i64 (pr.stage : Int), .slice po pr.ids.length pcap, .int .i64 pr.most, .int .i64 pr.hi, .int .i64 pr.pos, .int .i64 pr.sign, .bool true] 35) 8).name
          have R10 := Lib.hid (R9.out.stpF T10.out)
          have Z10 := Lib.hid (show Blk c10 8 (w9.alloc (.cells #[.pointer (some ⟨b, 0, none⟩), .int .i64 pr.next, .int .i64 (pr.stage : Int), .slice po pr.ids.length pcap, .int .i64 pr.most, .int .i64 pr.hi, .int .i64 pr.pos, .int .i64 pr.sign, .bool true] 35)) z [.pointer (some ⟨b, 0, none⟩), .int .i64 pr.next, .int .i64 (pr.stage : Int), .slice po pr.ids.length pcap, .int .i64 pr.most, .int .i64 pr.hi, .int .i64 pr.pos, .int .i64 pr.sign, .bool true] 35 by rw [hc10.out, hz]; exact Blk.new c9 8 w9 _ _)
          clear y0 y1 y2 y3 y4 y5 y6 y7 y8 yl x4 xl R8 R9 t9 hc10 T10
          go_wp2_with fail
          rw [← hz]
          clear hz
          refine (bprobe_any (some ⟨b, 0, none⟩) next c10 _).mono ?_
          rintro e w11 ⟨rfl, c11, t11⟩
          have R11 := Lib.hid (R10.out.stpF t11)
          have Z11 := Lib.hid (Z10.out.stp t11 id)
          clear t11 R10 Z10
          go_wp2_with fail
          refine (pstep_nilp b next c11 _).mono ?_
          rintro e w12 ⟨rfl, c12, t12⟩
          obtain ⟨c13, -, T13⟩ := (t12.alloc (.cells #[.pointer (some ⟨b, 0, none⟩), .int .i64 next, .int .i64 0, .slice none 0 0, .int .i64 0, .int .i64 0, .int .i64 0, .int .i64 0, .bool false] 35) 8).name
          have R13 := Lib.hid (R11.out.stpF T13.out)
          have Z13 := Lib.hid (Z11.out.stp T13.out id)
          clear t12 T13 R11 Z11
          go_wp2_with fail
          refine (awake12k 12 c13 _).mono ?_
          rintro e w14 ⟨rfl, c14, t14⟩
          have R14 := Lib.hid (R13.out.stp12 t14)
          have Z14 := Lib.hid (Z13.out.stp t14 (by decide))
          clear t14 R13 Z13
          obtain ⟨⟨y0, y1, y2, y3, y4, y5, y6, y7, y8⟩, -, yl, -, -⟩ := R14.out.cs
          rw [Hf.out] at y8
          go_wp2_with fail
          refine (pravail_any _ _ _ _ _ _ _ _ _ _ _ c14 (Pb_nx R14.out.po.nx) _).mono ?_
          rintro e w15 ⟨rfl, c15, t15⟩
          have R15 := Lib.hid (R14.out.stpF t15)
          have Z15 := Lib.hid (Z14.out.stp t15 id)
          have Hm := Lib.hid (show max pr.pos (pr.next - 1) = r.avail by have := Hav.out; rw [Pr.avail, if_pos Hf.out] at this; exact this)
          rw [if_pos rfl, Hm.out]
          clear t15 R14 Z14 y0 y1 y2 y3 y4 y5 y6 y7 y8 yl
          obtain ⟨z0, z1, z2, z3, z4, z5, z6, z7, z8, zl⟩ := blk9 Z15.out
          go_wp2_with fail
          refine (prdone_any _ _ _ _ _ _ _ _ _ _ c15 ⟨b, 0, none⟩ _).mono ?_
          rintro e w16 ⟨rfl, c16, t16⟩
          have R16 := Lib.hid (R15.out.stpF t16)
          have Z16 := Lib.hid (Z15.out.stp t16 id)
          clear t16 R15 Z15 z0 z1 z2 z3 z4 z5 z6 z7 z8 zl
          obtain ⟨z0, z1, z2, z3, z4, z5, z6, z7, z8, zl⟩ := blk9 Z16.out
          go_wp2_with fail
          refine (pravail_any _ _ _ _ _ _ _ _ _ _ _ c16 (Pb_nx R16.out.po.nx) _).mono ?_
          rintro e w17 ⟨rfl, c17, t17⟩
          have R17 := Lib.hid (R16.out.stpF t17)
          rw [if_pos rfl, Hm.out]
          clear t17 R16 Z16 z0 z1 z2 z3 z4 z5 z6 z7 z8 zl
          go_wp2_with fail
          refine (steps_any R17.out.ar).mono ?_
          rintro e w18 ⟨rfl, rfl⟩
          go_wp2_with fail
          refine (lawis (c := c17) (.inr ⟨by decide, .inl rfl⟩) 2).mono ?_
          rintro e w18 ⟨rfl, rfl⟩
          go_wp2
          go_ret
          exact ⟨by first | rfl | simp, R17.out.b0.st.fin⟩
        | false =>
          have hkn : k < n := by
            rcases Nat.lt_or_ge k n with h | h
            · exact h
            · have h1 := He.out.fi
              rw [← He.out.eq, show n = k by have := Hk.out; omega, ← Hp.out, hf] at h1
              cases h1
          have Hav := Lib.hid (show pr.avail = next - 1 by rw [Pr.avail, if_neg (by rw [hf]; decide), Hp.out, it_next])
          have Hst := Lib.hid (show stepP (p.bar al) la pr = itP (p.bar al) la (k + 1) (Pr.start next) by rw [itP_last, ← Hp.out])
          have Hsg := Lib.hid (show (stepP (p.bar al) la pr).sign = p.alert by rw [Hst.out]; exact (sign_it HV.out next k).1)
          have Hkn := Lib.hid hkn
          rw [hf] at y8
          have Hf := Lib.hid hf
          have hk2 : decide ((2000 : Int) < (k : Int)) = false := by have := Hn2.out; simp; omega
          obtain ⟨sk, hsk⟩ : ∃ sk, sk = s1 + (k : Int) := ⟨_, rfl⟩
          have Hsk := Lib.hid (show 0 ≤ sk ∧ sk ≤ 5000 by have := Hs1.out; have := Hn2.out; omega)
          have HSK := Lib.hid hsk
          rw [← hsk] at R
          clear hf hkn hsk
          have W1 := Pb_w1 Hn.out
          have W2 := Pb_w2 Hsk.out
          have W8 := Pb_w3 (k := k) (Nat.le_trans (Nat.le_of_lt Hkn.out) (Nat.le_trans Hn2.out (by decide)))
          go_wp2_with fail
          refine (R.out.done_c Hf.out).mono ?_
          rintro e w8 ⟨rfl, c8, R8⟩
          clear y0 y1 y2 y3 y4 y5 y6 y7 y8 yl x4 xl R
          obtain ⟨⟨y0, y1, y2, y3, y4, y5, y6, y7, y8⟩, -, yl, x4, xl⟩ := R8.out.cs
          rw [Hf.out] at y8
          go_wp2_with fail
          refine (R8.out.avail_c Hf.out Hav.out).mono ?_
          rintro e w9 ⟨rfl, c9, R9⟩
          clear y0 y1 y2 y3 y4 y5 y6 y7 y8 yl x4 xl R8
          go_wp2_with fail
          refine (steps_any R9.out.ar).mono ?_
          rintro e w10 ⟨rfl, rfl⟩
          obtain ⟨⟨y0, y1, y2, y3, y4, y5, y6, y7, y8⟩, -, yl, x4, xl⟩ := R9.out.cs
          rw [Hf.out] at y8
          go_wp2_with fail
          refine (R9.out.step_c Hf.out Hsk.out.1 (Pb_s2 Hsk.out)).mono ?_
          rintro e w10 ⟨po9, pcap9, c10, rfl, R10, I10⟩
          clear y0 y1 y2 y3 y4 y5 y6 y7 y8 yl x4 xl R9
          obtain ⟨c11, -, T11⟩ := ((Stp.refl (fun _ => False) c10 w10).alloc (.cells #[.pointer (some ⟨b, 0, none⟩), .int .i64 (stepP (p.bar al) la pr).next, .int .i64 ((stepP (p.bar al) la pr).stage : Int), .slice po9 (stepP (p.bar al) la pr).ids.length pcap9, .int .i64 (stepP (p.bar al) la pr).most, .int .i64 (stepP (p.bar al) la pr).hi, .int .i64 (stepP (p.bar al) la pr).pos, .int .i64 (stepP (p.bar al) la pr).sign, .bool (stepP (p.bar al) la pr).fin] 35) 8).name
          have R11 := Lib.hid (R10.out.stpF T11.out)
          have I11 := Lib.hid (I10.out.stp T11.out id)
          go_wp2_with fail
          refine (steps_any R11.out.ar).mono ?_
          rintro e w12 ⟨rfl, rfl⟩
          obtain ⟨⟨y0, y1, y2, y3, y4, y5, y6, y7, y8⟩, ⟨f0, f1, f2, f3, f4, f5, f6, f7, f8⟩, yl, x4, xl⟩ := R11.out.cs
          have R12 := Lib.hid (R11.out.lay I11.out)
          clear R10 I10 R11 I11
          go_upto_region 18 with fail
          clear y0 y1 y2 y3 y4 y5 y6 y7 y8 f0 f1 f2 f3 f4 f5 f6 f7 f8 yl x4 xl
          generalize World.setCell _ _ _ = W12 at R12 ⊢
          obtain ⟨⟨y0, y1, y2, y3, y4, y5, y6, y7, y8⟩, -, yl, z4, xl⟩ := R12.out.cs
          go_region_held3 (fun w' => w'.cell? ⟨x, 4, none⟩ = some (.int .i64 p.alert) ∧ w'.cell? ⟨y, 0, none⟩ = some (.pointer (some ⟨b, 0, none⟩)) ∧ w'.cell? ⟨y, 1, none⟩ = some (.int .i64 (stepP (p.bar al) la pr).next) ∧ w'.cell? ⟨y, 2, none⟩ = some (.int .i64 ((stepP (p.bar al) la pr).stage : Int)) ∧ w'.cell? ⟨y, 3, none⟩ = some (.slice po9 (stepP (p.bar al) la pr).ids.length pcap9) ∧ w'.cell? ⟨y, 4, none⟩ = some (.int .i64 (stepP (p.bar al) la pr).most) ∧ w'.cell? ⟨y, 5, none⟩ = some (.int .i64 (stepP (p.bar al) la pr).hi) ∧ w'.cell? ⟨y, 6, none⟩ = some (.int .i64 (stepP (p.bar al) la pr).pos) ∧ w'.cell? ⟨y, 7, none⟩ = some (.int .i64 (stepP (p.bar al) la pr).sign) ∧ w'.cell? ⟨y, 8, none⟩ = some (.bool (stepP (p.bar al) la pr).fin))
            (first | exact ⟨by assumption, by assumption, by assumption, by assumption, by assumption, by assumption, by assumption, by assumption, by assumption, by assumption⟩ | go_keep)
            (first
              | (go_at_call 36; refine (PbAt.sign_x (by first | exact R12.out | exact R12.out.stpF (Stp.refl (fun _ => False) _ _).drew | exact R12.out.stpF ((Stp.refl (fun _ => False) _ _).drewN _)) Hsg.out).mono ?_; rintro e w13 ⟨rfl, c13, R13, z4, z0, z1, z2, z3, z5, z6, z7, z8, z9⟩))
          go_wp2
          go_roundw
          case rel => exact ⟨k + 1, _, po9, pcap9, _, by go_num, Lib.hid Hkn.out, Lib.hid Hst.out, Lib.hid (by rw [show s1 + ((k + 1 : Nat) : Int) = sk + 1 from Pb_k HSK.out]; exact R13.out)⟩
          case measure => exact meas_w2 _ k (Pb_m Hkn.out Hn2.out) (Nat.le_trans (Nat.le_of_lt Hkn.out) (Nat.le_trans Hn2.out (by decide)))
    · rcases (show decide (next < 0) = true ∨ (decide (next < 0) = false ∧ decide ((1000 : Int) < next) = true) by simp only [decide_eq_true_eq, decide_eq_false_iff_not]; omega) with u1 | ⟨u1, u2⟩
      all_goals
        clear hn
        go_wp2_with fail
        refine (awake12_c B1.out).mono ?_
        rintro e w2 ⟨rfl, c2, B2, -⟩
        go_wp2
        go_ret
        exact ⟨by simp, B2.out.st.fin⟩
end Go.Proofs.YtoifknfmamcimaaDoor
