/- The walk of BarrierNew. No condition but that the table of math/bits holds what the program lays there. -/
import Derived.Test.YtoifknfmamcimaaDoorProbes
namespace Go.Proofs.YtoifknfmamcimaaDoor
open Go.RowKit

/-- New, part of the way. -/
structure NwAt (w0 : World) (p : Pln) (ao : Option Addr) (cap : Nat) (so : Option Addr) (scap : Nat) (x q b g : Nat) (bv : Option Addr) (B : Bar) (la : List Int) (s : Int) (c : Nat → Nat) (w : World) : Prop where
  b0 : B0 w0 p ao cap so scap x c w
  ar : ArenaAt c 2 w q la s
  br : BarIs c 3 w b g bv B

section
variable {w0 : World} {p : Pln} {ao : Option Addr} {cap : Nat} {so : Option Addr} {scap : Nat} {x q b g : Nat} {bv : Option Addr} {B : Bar} {la : List Int} {s : Int} {c c' : Nat → Nat} {w w' : World}
theorem NwAt.stpF (h : NwAt w0 p ao cap so scap x q b g bv B la s c w) (t : Stp (fun _ => False) c c' w w') : NwAt w0 p ao cap so scap x q b g bv B la s c' w' :=
  ⟨h.b0.stp t (fun _ h => h.elim), h.ar.stp t id, h.br.stp t id id id⟩
theorem NwAt.stp4 (h : NwAt w0 p ao cap so scap x q b g bv B la s c w) (t : Stp (12 ≤ ·) c c' w w') : NwAt w0 p ao cap so scap x q b g bv B la s c' w' :=
  ⟨h.b0.stp t (fun _ h => by omega), h.ar.stp t (by decide), h.br.stp t (by decide) (by decide) (by decide)⟩
theorem NwAt.x1 (h : NwAt w0 p ao cap so scap x q b g bv B la s c w) : w.cell? ⟨x, 1, none⟩ = some (.slice ao p.after.length cap) := h.b0.cs.2.1
theorem NwAt.after_c (h : NwAt w0 p ao cap so scap x q b g bv B la s c w) (hB : B.ids = idsN p.after.length) (hl : p.after.length ≤ 8) {n : Nat} (hn : p.after.length = n) :
    Calls Tryd.prog 33 #[.pointer (some ⟨b, 0, none⟩)] w fun e w' => ∃ io icap, e = .returned (.slice io n icap) ∧ ∃ c', Hid (NwAt w0 p ao cap so scap x q b g bv B la s c' w') ∧ Hid (Row c' 9 w' 3 1 io n icap ((idsN n).map (Value.int .i64))) ∧ w'.cell? ⟨x, 1, none⟩ = some (.slice ao p.after.length cap) := by
  subst hn
  have e1 : B.ids.length = p.after.length := by rw [hB, idsN_len]
  refine (bafter_any h.br 9 (by rw [e1]; omega)).mono ?_
  rintro e w' ⟨io, icap, rfl, c', t, r⟩
  rw [e1, hB] at r
  exact ⟨io, icap, by rw [e1], c', Lib.hid (h.stpF t), Lib.hid r, (h.stpF t).x1⟩
theorem NwAt.alert_c (h : NwAt w0 p ao cap so scap x q b g bv B la s c w) {al : Nat} (hB : B.al = al) :
    Calls Tryd.prog 32 #[.pointer (some ⟨b, 0, none⟩)] w fun e w' => e = .returned (.int .i64 al) ∧ Hid (NwAt w0 p ao cap so scap x q b g bv B la s c w') ∧ w'.cell? ⟨x, 1, none⟩ = some (.slice ao p.after.length cap) := by
  refine (balert_any h.br).mono ?_
  rintro e w' ⟨rfl, rfl⟩
  exact ⟨by rw [hB], Lib.hid h, h.x1⟩
theorem NwAt.len_c (h : NwAt w0 p ao cap so scap x q b g bv B la s c w) {al : Nat} (hl : la.length = al + 1) :
    Calls Tryd.prog 34 #[.pointer (some ⟨q, 0, none⟩)] w fun e w' => e = .returned (.int .i64 ((al : Int) + 1)) ∧ Hid (NwAt w0 p ao cap so scap x q b g bv B la s c w') ∧ w'.cell? ⟨x, 1, none⟩ = some (.slice ao p.after.length cap) := by
  refine (len_any h.ar).mono ?_
  rintro e w' ⟨rfl, rfl⟩
  exact ⟨by rw [hl]; simp, Lib.hid h, h.x1⟩
theorem NwAt.load_c (h : NwAt w0 p ao cap so scap x q b g bv B la s c w) (j : Nat) {v : Int} (hj : j < la.length) (hv : la.getD j 0 = v) (h0 : 0 ≤ s) (h1 : s < 4611686018427387904) :
    Calls Tryd.prog 31 #[.pointer (some ⟨q, 0, none⟩), .int .i64 (j : Nat)] w fun e w' => e = .returned (.tuple #[.int .i64 v, .nilIface]) ∧ ∃ c', Hid (NwAt w0 p ao cap so scap x q b g bv B la (s + 1) c' w') ∧ Hid (Stp (· = 2) c c' w w') ∧ w'.cell? ⟨x, 1, none⟩ = some (.slice ao p.after.length cap) := by
  refine (load_ok h.ar j hj h0 h1).mono ?_
  rintro e w' ⟨rfl, c', t, a⟩
  have h' : NwAt w0 p ao cap so scap x q b g bv B la (s + 1) c' w' := ⟨h.b0.stp t (fun _ h => by omega), a, h.br.stp t (by decide) (by decide) (by decide)⟩
  exact ⟨by rw [hv], c', Lib.hid h', Lib.hid t, h'.x1⟩
end

def Pln.calm (p : Pln) : Pln := ⟨p.cursor, p.after, p.buffer, p.shown, 0, p.shift⟩

theorem Nw_w {al : Nat} (h : al ≤ 200) : wrap64 ((al : Int) + 1 - 1) = al := by
  rw [show (al : Int) + 1 - 1 = al by omega]
  exact IntWalk.wrap64_in _ (by constructor <;> omega)
theorem Nw_w2 {al : Nat} (h : al ≤ 200) : wrap64 (al : Int) = al := IntWalk.wrap64_in _ (by constructor <;> omega)
theorem Nw_w1 {al : Nat} (h : al ≤ 200) : wrap64 ((al : Int) + 1) = (al : Int) + 1 := IntWalk.wrap64_in _ (by constructor <;> omega)
theorem Nw_s {s : Int} (h : 0 ≤ s ∧ s ≤ 1000) : s < 4611686018427387904 := by omega

theorem Nw_sa {s : Int} (h : 0 ≤ s ∧ s ≤ 100) : 0 ≤ s ∧ s ≤ 1000 := by omega

theorem Nw_lt {k n al m : Nat} (h : k < n) (h1 : n + 1 ≤ al) (h2 : m = al + 1) : k + 1 < m := by omega
theorem Nw_s0 {s : Int} {k : Nat} (h : 0 ≤ s ∧ s ≤ 100) : 0 ≤ s + 1 + (k : Int) := by omega
theorem Nw_sb {s : Int} {k : Nat} (h : 0 ≤ s ∧ s ≤ 100) (hk : k ≤ 8) : 0 ≤ s + 1 + (k : Int) ∧ s + 1 + (k : Int) ≤ 1000 := by omega

def NwRel (w0 : World) (p : Pln) (ao : Option Addr) (cap : Nat) (so : Option Addr) (scap : Nat) (x q b g : Nat) (bv : Option Addr) (B : Bar) (la : List Int) (s : Int) (io : Option Addr) (n icap : Nat) (i : Value) (wr : World) : Prop :=
  ∃ (k : Nat) (c : Nat → Nat), i = .int .i64 k ∧ Hid (k ≤ n) ∧ Hid (NwAt w0 p ao cap so scap x q b g bv B la (s + k) c wr) ∧ Hid (Row c 9 wr 3 1 io n icap ((idsN n).map (Value.int .i64)))

set_option maxRecDepth 100000 in
set_option maxHeartbeats 2000000 in
theorem bnews_walk (p : Pln) (ao : Option Addr) (cap : Nat) (so : Option Addr) (scap : Nat) (next : Int) (w : World) (hi : PlnIn w p ao cap so scap) :
    Calls Tryd.prog 6 #[.agg #[.int .i64 p.cursor, .slice ao p.after.length cap, .bool p.buffer, .slice so p.shown.length scap, .int .i64 p.alert, .int .u8 p.shift], .int .i64 next] w fun e w' => e = .returned (.bool true) ∧ Below w.heap.size w w' := by
  obtain ⟨x, hx⟩ : ∃ x, x = w.heap.size := ⟨_, rfl⟩
  have Hi := Lib.hid (show PlnIn w p.calm ao cap so scap from ⟨hi.la, hi.ls, hi.ok, hi.sh, hi.tb⟩)
  have HX := Lib.hid hx
  obtain ⟨cx, B⟩ : ∃ cx, Hid (B0 w p.calm ao cap so scap x cx (w.alloc (.cells #[.int .i64 p.cursor, .slice ao p.after.length cap, .bool p.buffer, .slice so p.shown.length scap, .int .i64 0, .int .u8 p.shift] 25))) := ⟨_, Lib.hid (by rw [hx]; exact B0.start p.calm ao cap so scap w)⟩
  clear hi
  go_enter Tryd.func6, Tryd.ntmps6
  go_wp2_with fail
  refine (begun_c Hi.out p.calm rfl rfl rfl B.out).mono ?_
  rw [← hx]
  clear hx
  rintro e w1 ⟨c1, B1, h⟩
  rcases h with rfl | ⟨q, b, g, bv, la, left, al, s, lo, lcap, rfl, M⟩
  · go_wp2_with fail
    refine (awake12_c B1.out).mono ?_
    rintro e w2 ⟨rfl, c2, B2, -⟩
    go_wp2
    go_ret
    exact ⟨by simp, B2.out.st.fin⟩
  · have R1 := Lib.hid (show NwAt w p.calm ao cap so scap x q b g bv (p.calm.bar al) la s c1 w1 from ⟨B1.out, M.out.ar, M.out.br⟩)
    have Hs := Lib.hid M.out.s0
    have Hal := Lib.hid (show al ≤ 200 by have := M.out.be.lo; have := M.out.ok.an; omega)
    have Hlen := Lib.hid M.out.be.len
    have Hvl := Lib.hid (show la.getD al 0 = 0 from M.out.be.vl)
    have Hva := Lib.hid (show ∀ i, i < p.after.length → la.getD (i + 1) 0 = p.after.getD i 0 from M.out.be.va)
    have Han := Lib.hid (show p.after.length ≤ 8 from M.out.ok.an)
    have Hlo := Lib.hid (show p.after.length + 1 ≤ al from M.out.be.lo.1)
    obtain ⟨n, hn⟩ : ∃ n, p.after.length = n := ⟨_, rfl⟩
    have HN := Lib.hid hn
    have Hn8 := Lib.hid (show n ≤ 8 by rw [← hn]; exact Han.out)
    clear hn M B1
    go_wp2_with fail
    refine (R1.out.alert_c (al := al) rfl).mono ?_
    rintro e w2 ⟨rfl, R2, -⟩
    clear R1
    go_wp2_with fail
    refine (R2.out.load_c al (by rw [Hlen.out]; exact Nat.lt_succ_self _) Hvl.out Hs.out.1 (Nw_s (Nw_sa Hs.out))).mono ?_
    rintro e w3 ⟨rfl, c3, R3, -, x1⟩
    clear R2
    have x1' : w3.cell? ⟨x, 1, none⟩ = some (.slice ao n cap) := by rw [← HN.out]; exact x1
    have W1 := Nw_w Hal.out
    have W2 : IntKind.i64.wrap (al : Int) = al := (IntWalk.i64_left _).trans (Nw_w2 Hal.out)
    clear x1
    go_upto_region 6 with fail
    go_region_held3 (fun w' => w'.cell? ⟨x, 1, none⟩ = some (.slice ao n cap))
      (first | assumption | go_keep)
      (first
        | (go_at_call 33; refine (NwAt.after_c (by first | exact R3.out | exact R3.out.stpF (Stp.refl (fun _ => False) _ _).drew | exact R3.out.stpF ((Stp.refl (fun _ => False) _ _).drewN _)) (by rfl) (by exact Han.out) (by exact HN.out)).mono ?_; rintro e w4 ⟨io4, icap4, rfl, c4, R3, -, x1''⟩; rw [show p.calm.after.length = n from HN.out] at x1'')
        | (go_at_call 32; refine (NwAt.alert_c (al := al) (by first | exact R3.out | exact R3.out.stpF (Stp.refl (fun _ => False) _ _).drew | exact R3.out.stpF ((Stp.refl (fun _ => False) _ _).drewN _)) (by rfl)).mono ?_; rintro e w5 ⟨rfl, R3, x1''⟩; rw [show p.calm.after.length = n from HN.out] at x1'')
        | (go_at_call 34; refine (NwAt.len_c (al := al) (by first | exact R3.out | exact R3.out.stpF (Stp.refl (fun _ => False) _ _).drew | exact R3.out.stpF ((Stp.refl (fun _ => False) _ _).drewN _)) (by exact Hlen.out)).mono ?_; rintro e w6 ⟨rfl, R3, x1''⟩; rw [show p.calm.after.length = n from HN.out] at x1''))
    go_wp2_with fail
    clear x1'
    refine (R3.out.after_c rfl Han.out HN.out).mono ?_
    rintro e w7 ⟨io, icap, rfl, c7, R7, I7, x1⟩
    rw [show p.calm.after.length = n from HN.out] at x1
    clear R3
    go_wp2_with fail
    go_loopw [68] (fun i wr => NwRel w p.calm ao cap so scap x q b g bv (p.calm.bar al) la (s + 1) io n icap i wr) (fun i _ => n - (intOf i).toNat)
    case atStart => exact ⟨0, c7, rfl, Lib.hid (Nat.zero_le _), Lib.hid (by have := R7.out; simpa using this), I7⟩
    case round =>
      obtain ⟨k, c8, rfl, Hk, R, I⟩ := hrel
      clear R7 I7 x1
      have x1 : wr.cell? ⟨x, 1, none⟩ = some (.slice ao n cap) := by rw [← HN.out]; exact R.out.x1
      by_cases hlt : k < n
      · obtain ⟨a, ha, hc⟩ := I.out.toIn.ints hlt
        subst ha
        rw [idsN_get hlt] at hc
        obtain ⟨ax, hax, hcx⟩ := ((Hi.out.la.stp R.out.b0.st (by decide)).ints (show k < p.calm.after.length by rw [show p.calm.after.length = n from HN.out]; exact hlt))
        subst hax
        have HV := Lib.hid (show la.getD (k + 1) 0 = p.after.getD k 0 from Hva.out k (by rw [HN.out]; exact hlt))
        rw [show p.calm.after = p.after from rfl] at hcx
        have HVk : Hid (p.calm.after.getD k 0 = p.after.getD k 0) := Lib.hid rfl
        generalize p.after.getD k 0 = v at *
        have Hlt := Lib.hid hlt
        have Hax := Lib.hid (Hi.out.la.stp R.out.b0.st (by decide))
        have Hcx := Lib.hid hcx
        have W8 := Pb_w3 (k := k) (Nat.le_trans (Nat.le_of_lt hlt) (Nat.le_trans Hn8.out (by decide)))
        go_wp2_with fail
        refine (R.out.load_c (k + 1) (Nw_lt Hlt.out (by rw [← HN.out]; exact Hlo.out) Hlen.out) HV.out (Nw_s0 Hs.out) (Nw_s (Nw_sb Hs.out (Nat.le_trans Hk.out Hn8.out)))).mono ?_
        rintro e w9 ⟨rfl, c9, R9, T9, x1⟩
        rw [show p.calm.after.length = n from HN.out] at x1
        have I9 := Lib.hid (I.out.stp T9.out (by decide))
        clear hcx
        have hcx := (Hax.out.stp T9.out (by decide)).ints (show k < p.calm.after.length by rw [show p.calm.after.length = n from HN.out]; exact Hlt.out)
        obtain ⟨ax', hax, hcx⟩ := hcx
        rw [show p.calm.after.getD k 0 = v from HVk.out] at hcx
        obtain rfl : ax = ax' := by simpa using hax
        go_wp2_with fail
        go_roundw
        case rel => exact ⟨k + 1, c9, by go_num, Lib.hid Hlt.out, Lib.hid (by rw [show s + 1 + ((k + 1 : Nat) : Int) = s + 1 + (k : Int) + 1 by omega]; exact R9.out), I9⟩
        case measure => exact meas_w2 _ k Hlt.out (Nat.le_trans (Nat.le_of_lt Hlt.out) (Nat.le_trans Hn8.out (by decide)))
      · clear I Hk x1
        obtain ⟨s2, hs2⟩ : ∃ s2, s2 = s + 1 + (k : Int) := ⟨_, rfl⟩
        rw [← hs2] at R
        clear hs2
        have hlt2 : decide ((k : Int) < (n : Int)) = false := by simp; omega
        go_wp2_with fail
        refine (bnew_nil 0 (.pointer none) _).mono ?_
        rintro e w9 ⟨rfl, rfl⟩
        go_wp2_with fail
        refine (len_any R.out.ar).mono ?_
        rintro e w9 ⟨rfl, rfl⟩
        go_wp2_with fail
        refine (bnew_out R.out.ar la.length (Nat.le_refl _) (.pointer none)).mono ?_
        rintro e w9 ⟨ty3, ev3, rfl, c9, t9, E9⟩
        have R9 := Lib.hid (R.out.stpF t9)
        have E3 := Lib.hid E9
        clear t9 E9 R
        obtain ⟨c10, hc10, A10⟩ := ((Stp.refl (fun _ => False) c9 w9).alloc (.cells #[.int .i64 1, .int .i64 1] 3) 9).name
        have Z := Lib.hid (show In c10 9 (w9.alloc (.cells #[.int .i64 1, .int .i64 1] 3)) 1 (some ⟨w9.heap.size, 0, none⟩) 2 2 ([(1 : Int), 1].map (Value.int .i64)) by rw [hc10.out]; exact (Row.blk (Blk.new c9 9 w9 [.int .i64 1, .int .i64 1] 3) (by simp) (by unfold maxLen; omega)).toIn)
        have R10 := Lib.hid (R9.out.stpF A10.out)
        have E10 := Lib.hid (E3.out.stp A10.out id)
        clear A10 hc10 R9 E3
        go_wp2_with fail
        refine (bnew_dup (cur := 0) (m := 4) R10.out.ar Z.out (by decide) (by rw [Hlen.out]; exact Nat.succ_pos _) (by decide) (by decide) (.pointer none)).mono ?_
        rintro e w11 ⟨ev4, rfl, c11, t11, E11⟩
        have B11 := Lib.hid (R10.out.b0.stp t11 (fun _ h => by omega))
        have E12 := Lib.hid (E10.out.stp t11 (by decide))
        have E13 := Lib.hid E11
        clear t11 E11 E10 R10 Z
        go_wp2_with fail
        refine (blook_nil q next c11 _).mono ?_
        rintro e w14 ⟨rfl, c14, t14⟩
        have B14 := Lib.hid (B11.out.stp t14 (fun _ h => h.elim))
        have E14 := Lib.hid (E12.out.stp t14 id)
        have E15 := Lib.hid (E13.out.stp t14 id)
        clear t14 B11 E12 E13
        go_wp2_with fail
        refine (awake12_c B14.out).mono ?_
        rintro e w16 ⟨rfl, c16, B16, T16⟩
        have E16 := Lib.hid (E14.out.stp T16.out (by decide))
        have E17 := Lib.hid (E15.out.stp T16.out (by decide))
        clear T16 B14 E14 E15
        go_wp2_with fail
        refine (lawis (c := c16) (.inr ⟨by decide, .inl rfl⟩) 2).mono ?_
        rintro e w18 ⟨rfl, rfl⟩
        go_wp2_with fail
        refine (lawis (.inr ⟨by decide, E16.out⟩) 3).mono ?_
        rintro e w18 ⟨rfl, rfl⟩
        go_wp2_with fail
        refine (lawis (.inr ⟨by decide, E17.out⟩) 4).mono ?_
        rintro e w18 ⟨rfl, rfl⟩
        go_wp2_with fail
        refine (lawis (c := c16) (.inr ⟨by decide, .inl rfl⟩) 2).mono ?_
        rintro e w18 ⟨rfl, rfl⟩
        go_wp2_with fail
        refine (balert_nil _).mono ?_
        rintro e w18 ⟨rfl, rfl⟩
        go_wp2_with fail
        refine (bafter_nil _).mono ?_
        rintro e w18 ⟨rfl, rfl⟩
        go_wp2_with fail
        refine (bprobe_any none next c16 _).mono ?_
        rintro e w19 ⟨rfl, c19, t19⟩
        have B19 := Lib.hid (B16.out.stp t19 (fun _ h => h.elim))
        clear t19 B16
        go_wp2_with fail
        refine (prdone_nil next c19 _).mono ?_
        rintro e w20 ⟨rfl, c20, t20⟩
        have B20 := Lib.hid (B19.out.stp t20 (fun _ h => h.elim))
        clear t20 B19
        go_wp2
        go_ret
        exact ⟨by first | rfl | simp, B20.out.st.fin⟩
end Go.Proofs.YtoifknfmamcimaaDoor
