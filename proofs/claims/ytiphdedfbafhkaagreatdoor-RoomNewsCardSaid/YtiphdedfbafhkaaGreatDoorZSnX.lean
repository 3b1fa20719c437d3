/- Contracts that the closing theorem wants (SnX). No condition beyond each law's own. -/
import Derived.Test.YtiphdedfbafhkaaGreatDoorZMulY
import Derived.Deep.QuietTactic
import Derived.Test.YtiphdedfbafhkaaGreatDoorZBB
import Derived.Deep.RegionHeld3
namespace Go.Proofs.YtiphdedfbafhkaaGreatDoor
open Go.RowKit

/-- A single sequencer: its struct of colour k, its group of colour k + 1. -/
structure SnAt (c : Nat → Nat) (k : Nat) (w : World) (p q gp sh cid : Nat) (cl ca sc : Int) (ids : List Int) : Prop where
  st : Blk c k w p [.pointer (some ⟨q, 0, none⟩), .int .i64 sh, .int .i64 cid, .int .i64 cl, .int .i64 ca, .pointer (some ⟨gp, 0, none⟩), .int .i64 sc] 185
  gr : GroupAt c (k + 1) w gp ids

section
variable {c c' : Nat → Nat} {k K : Nat} {w w' : World} {p q gp sh cid : Nat} {cl ca sc : Int} {ids : List Int} {la : List Int} {s : Int}
theorem SnAt.stp {J : Nat → Prop} (h : SnAt c k w p q gp sh cid cl ca sc ids) (t : Stp J c c' w w') (h0 : ¬ J k) (h1 : ¬ J (k + 1)) : SnAt c' k w' p q gp sh cid cl ca sc ids := ⟨h.st.stp t h0, h.gr.stp t h1⟩
theorem SnAt.cs (h : SnAt c k w p q gp sh cid cl ca sc ids) : w.cell? ⟨p, 0, none⟩ = some (.pointer (some ⟨q, 0, none⟩)) ∧ w.cell? ⟨p, 1, none⟩ = some (.int .i64 sh) ∧ w.cell? ⟨p, 2, none⟩ = some (.int .i64 cid) ∧ w.cell? ⟨p, 3, none⟩ = some (.int .i64 cl) ∧ w.cell? ⟨p, 4, none⟩ = some (.int .i64 ca) ∧ w.cell? ⟨p, 5, none⟩ = some (.pointer (some ⟨gp, 0, none⟩)) ∧ w.cell? ⟨p, 6, none⟩ = some (.int .i64 sc) :=
  ⟨by simpa using h.st.cell 0, by simpa using h.st.cell 1, by simpa using h.st.cell 2, by simpa using h.st.cell 3, by simpa using h.st.cell 4, by simpa using h.st.cell 5, by simpa using h.st.cell 6⟩

theorem sndone_any (c : Nat → Nat) (sv : Addr) (hi : Int) (ao : Option Addr) (m cap : Nat) (most : Int) (seen done full : Bool) (w : World) :
    Calls Tryz.prog 82 #[.agg #[.pointer (some sv), .int .i64 hi, .slice ao m cap, .int .i64 most, .bool seen, .bool done, .bool full]] w fun e w' => e = .returned (.bool done) ∧ ∃ c', Stp (fun _ => False) c c' w w' := by
  have S := Lib.hid ((Stp.refl (fun _ => False) c w).alloc (.cells #[.pointer (some sv), .int .i64 hi, .slice ao m cap, .int .i64 most, .bool seen, .bool done, .bool full] 33) 0)
  cases done
  all_goals
    go_enter Tryz.func82, Tryz.ntmps82
    go_wp2
    go_ret
    exact ⟨by first | rfl | simp, _, S.out⟩

theorem snfull_any (c : Nat → Nat) (sv : Option Addr) (hi : Int) (ao : Option Addr) (m cap : Nat) (most : Int) (seen done full : Bool) (w : World) :
    Calls Tryz.prog 85 #[.agg #[.pointer sv, .int .i64 hi, .slice ao m cap, .int .i64 most, .bool seen, .bool done, .bool full]] w fun e w' => e = .returned (.bool full) ∧ ∃ c', Stp (fun _ => False) c c' w w' := by
  have S := Lib.hid ((Stp.refl (fun _ => False) c w).alloc (.cells #[.pointer sv, .int .i64 hi, .slice ao m cap, .int .i64 most, .bool seen, .bool done, .bool full] 33) 0)
  go_enter Tryz.func85, Tryz.ntmps85
  go_wp2
  go_ret
  exact ⟨by first | rfl | simp, _, S.out⟩

theorem snlast_any (c : Nat → Nat) (sv : Option Addr) (hi : Int) (ao : Option Addr) (m cap : Nat) (most : Int) (seen done full : Bool) (w : World) :
    Calls Tryz.prog 148 #[.agg #[.pointer sv, .int .i64 hi, .slice ao m cap, .int .i64 most, .bool seen, .bool done, .bool full]] w fun e w' => e = .returned (.int .i64 (if done = true ∧ full = false then hi else -1)) ∧ ∃ c', Stp (fun _ => False) c c' w w' := by
  have S := Lib.hid ((Stp.refl (fun _ => False) c w).alloc (.cells #[.pointer sv, .int .i64 hi, .slice ao m cap, .int .i64 most, .bool seen, .bool done, .bool full] 33) 0)
  cases done <;> cases full
  all_goals
    go_enter Tryz.func148, Tryz.ntmps148
    go_wp2
    go_ret
    exact ⟨by first | rfl | simp, _, S.out⟩

/-- New of a size. -/
theorem snnew_ok (ha : ArenaAt c K w q la s) (sh : Nat) (hsh : sh < 21) (hl : (la.length : Int) < 2097152) (ht : Tab w) (k : Nat) (hk : k ≠ K) (hk1 : k + 1 ≠ K) {m : Int} (hm : m = ((2 ^ sh : Nat) : Int)) :
    Calls Tryz.prog 52 #[.pointer (some ⟨q, 0, none⟩), .int .i64 m] w fun e w' => ∃ p gp, e = .returned (.tuple #[.pointer (some ⟨p, 0, none⟩), .nilIface]) ∧ ∃ c', Stp (· = K) c c' w w' ∧ ArenaAt c' K w' q (la ++ [-1]) s ∧ SnAt c' k w' p q gp sh la.length (-1) (-1) 0 [] := by
  subst hm
  have HA := Lib.hid ha
  have Hl := Lib.hid hl
  have Ht := Lib.hid ht
  have Hk := Lib.hid (And.intro hk hk1)
  clear ha hl ht hk hk1
  go_enter Tryz.func52, Tryz.ntmps52
  go_wp2_with fail
  refine (of_pow c sh hsh w Ht.out).mono ?_
  rintro e w1 ⟨rfl, c1, s1⟩
  obtain ⟨c2, hc2, A2⟩ := (s1.alloc (.cells #[.int .i64 sh] 65) (K + 1)).name
  have X2 := Lib.hid (show Blk c2 (K + 1) (w1.alloc (.cells #[.int .i64 sh] 65)) w1.heap.size [.int .i64 sh] 65 by rw [hc2.out]; exact Blk.new c1 (K + 1) w1 [.int .i64 sh] _)
  have H2 := Lib.hid (HA.out.stp A2.out id)
  clear s1
  go_wp2_with fail
  refine (alloc_ok H2.out (-1) Hl.out).mono ?_
  rintro e w3 ⟨rfl, c3, s3, a3⟩
  have X3 := Lib.hid (X2.out.stp s3 (by omega))
  have x0 := X3.out.cell 0
  simp at x0
  have A3 := Lib.hid a3
  have S3 := Lib.hid ((A2.out.mono (J' := (· = K)) (fun _ h => h.elim)).trans s3)
  clear s3 a3
  go_wp2
  go_ret2
  have S4 := (Stp.refl (fun _ => False) c3 w3).alloc (.cells #[.slice none 0 0] 137) (k + 1)
  have G4 := Blk.new c3 (k + 1) w3 [.slice none 0 0] 137
  have S5 := (Stp.refl (fun _ => False) (paint c3 w3.heap.size (k + 1)) (w3.alloc (.cells #[.slice none 0 0] 137))).alloc (.cells #[.pointer (some ⟨q, 0, none⟩), .int .i64 sh, .int .i64 la.length, .int .i64 (-1), .int .i64 (-1), .pointer (some ⟨w3.heap.size, 0, none⟩), .int .i64 0] 185) k
  have P5 := Blk.new (paint c3 w3.heap.size (k + 1)) k (w3.alloc (.cells #[.slice none 0 0] 137)) [.pointer (some ⟨q, 0, none⟩), .int .i64 sh, .int .i64 la.length, .int .i64 (-1), .int .i64 (-1), .pointer (some ⟨w3.heap.size, 0, none⟩), .int .i64 0] 185
  rw [show (w3.alloc (.cells #[.slice none 0 0] 137)).heap.size = w3.heap.size + 1 by simp] at P5 S5
  exact ⟨_, _, rfl, _, (S3.out.trans (S4.mono (fun _ h => h.elim))).trans (S5.mono (fun _ h => h.elim)), (A3.out.stp S4 id).stp S5 id, P5, ⟨none, 0, G4.stp S5 id, Row.nil _ _ _ _ _⟩⟩

/-- Load of the cursor, out of an order of the region's operations. -/
theorem snload (h : SnAt c k w p q gp sh cid cl ca sc ids) (ha : ArenaS c K w q la) (hk : k ≠ K) (hk1 : k + 1 ≠ K) (hc : cid < la.length) {W : World} (hW : Stp (fun _ => False) c c w W) :
    Calls Tryz.prog 37 #[.pointer (some ⟨q, 0, none⟩), .int .i64 cid] W fun e w' => e = .returned (.tuple #[.int .i64 (la.getD cid 0), .nilIface]) ∧ ∃ c', Hid (Stp (· = K) c c' w w') ∧ Hid (ArenaS c' K w' q la) ∧ Hid (SnAt c' k w' p q gp sh cid cl ca sc ids) ∧ w'.cell? ⟨p, 0, none⟩ = some (.pointer (some ⟨q, 0, none⟩)) ∧ w'.cell? ⟨p, 2, none⟩ = some (.int .i64 cid) :=
  (load_s (ha.stp hW id) cid hc).mono fun _ w' ⟨he, c', t, a⟩ => by
    have h1 := (h.stp hW id id).stp t hk hk1
    exact ⟨he, c', Lib.hid ((hW.mono (fun _ h => h.elim)).trans t), Lib.hid a, Lib.hid h1, h1.cs.1, h1.cs.2.2.1⟩

theorem snpublished_c (h : SnAt c k w p q gp sh cid cl ca sc ids) (ha : ArenaS c K w q la) (hk : k ≠ K) (hk1 : k + 1 ≠ K) (hc : cid < la.length) :
    Calls Tryz.prog 76 #[.pointer (some ⟨p, 0, none⟩)] w fun e w' => e = .returned (.int .i64 (la.getD cid 0)) ∧ ∃ c', Stp (· = K) c c' w w' ∧ ArenaS c' K w' q la ∧ SnAt c' k w' p q gp sh cid cl ca sc ids := by
  have hl := fun (W : World) (hW : Stp (fun _ => False) c c w W) => snload h ha hk hk1 hc hW
  obtain ⟨x0, x1, x2, x3, x4, x5, x6⟩ := h.cs
  have HL := Lib.hid hl
  clear hl h ha hk hk1 hc x1 x3 x4 x5 x6
  generalize la.getD cid 0 = v at *
  go_enter Tryz.func76, Tryz.ntmps76
  go_wp2
  go_region_held3 (fun w' => w'.cell? ⟨p, 0, none⟩ = some (.pointer (some ⟨q, 0, none⟩)) ∧ w'.cell? ⟨p, 2, none⟩ = some (.int .i64 cid))
    (first | exact ⟨by assumption, by assumption⟩ | go_keep)
    (first | (go_at_call 37; refine (HL.out _ (by first | exact (Stp.refl _ _ _).drew | exact Stp.refl _ _ _)).mono ?_; rintro e w2 ⟨rfl, c2, T2, A2, N2, x0, x2⟩))
  go_wp2
  go_ret
  exact ⟨rfl, c2, T2.out, A2.out, N2.out⟩

set_option maxRecDepth 100000 in
/-- Publish of what was claimed. -/
theorem snpublish_ok (h : SnAt c k w p q gp sh cid cl ca sc ids) (ha : ArenaS c K w q la) (hk : k ≠ K) (hk1 : k + 1 ≠ K) (hc : cid < la.length) (hi : Int) (h1 : la.getD cid 0 < hi) (h2 : hi ≤ cl) :
    Calls Tryz.prog 58 #[.pointer (some ⟨p, 0, none⟩), .int .i64 hi] w fun e w' => e = .returned .nilIface ∧ ∃ c', Stp (· = K) c c' w w' ∧ ArenaS c' K w' q (la.set cid hi) ∧ SnAt c' k w' p q gp sh cid cl ca sc ids := by
  have hl := fun (W : World) (hW : Stp (fun _ => False) c c w W) => snload h ha hk hk1 hc hW
  obtain ⟨x0, x1, x2, x3, x4, x5, x6⟩ := h.cs
  have HL := Lib.hid hl
  have g1 : decide (hi ≤ la.getD cid 0) = false := by simp only [decide_eq_false_iff_not]; omega
  have g2 : decide (cl < hi) = false := by simp only [decide_eq_false_iff_not]; omega
  have Hk := Lib.hid (And.intro hk hk1)
  have Hc := Lib.hid hc
  clear hl h ha hk hk1 hc x1 x3 x4 x5 x6 h1 h2
  generalize la.getD cid 0 = v at *
  go_enter Tryz.func58, Tryz.ntmps58
  go_wp2
  go_region_held3 (fun w' => w'.cell? ⟨p, 0, none⟩ = some (.pointer (some ⟨q, 0, none⟩)) ∧ w'.cell? ⟨p, 2, none⟩ = some (.int .i64 cid))
    (first | exact ⟨by assumption, by assumption⟩ | go_keep)
    (first | (go_at_call 37; refine (HL.out _ (by first | exact (Stp.refl _ _ _).drew | exact Stp.refl _ _ _)).mono ?_; rintro e w2 ⟨rfl, c2, T2, A2, N2, x0, x2⟩))
  obtain ⟨y0, y1, y2, y3, y4, y5, y6⟩ := N2.out.cs
  have hst := fun (W : World) (hW : Stp (fun _ => False) c2 c2 w2 W) => (store_s (A2.out.stp hW id) cid hi Hc.out).mono fun e w' (h : e = .returned .nilIface ∧ ∃ c', Stp (· = K) c2 c' W w' ∧ ArenaS c' K w' q (la.set cid hi)) => (show e = .returned .nilIface ∧ ∃ c', Hid (Stp (· = K) c2 c' w2 w') ∧ Hid (ArenaS c' K w' q (la.set cid hi)) ∧ Hid (SnAt c' k w' p q gp sh cid cl ca sc ids) ∧ w'.cell? ⟨p, 0, none⟩ = some (.pointer (some ⟨q, 0, none⟩)) ∧ w'.cell? ⟨p, 2, none⟩ = some (.int .i64 cid) from by
    obtain ⟨he, c', t, a⟩ := h
    have h1 := (N2.out.stp hW id id).stp t Hk.out.1 Hk.out.2
    exact ⟨he, c', Lib.hid ((hW.mono (fun _ h => h.elim)).trans t), Lib.hid a, Lib.hid h1, h1.cs.1, h1.cs.2.2.1⟩)
  have HST := Lib.hid hst
  clear hst y1 y4 y5 y6 y0 y2
  go_wp2
  go_region_held3 (fun w' => w'.cell? ⟨p, 0, none⟩ = some (.pointer (some ⟨q, 0, none⟩)) ∧ w'.cell? ⟨p, 2, none⟩ = some (.int .i64 cid))
    (first | exact ⟨by assumption, by assumption⟩ | go_keep)
    (first | (go_at_call 106; refine (HST.out _ (by first | exact (Stp.refl _ _ _).drew | exact Stp.refl _ _ _)).mono ?_; rintro e w3 ⟨rfl, c3, T3, A3, N3, x0, x2⟩))
  go_wp2
  go_ret
  exact ⟨rfl, c3, T2.out.trans T3.out, A3.out, N3.out⟩
end
end Go.Proofs.YtiphdedfbafhkaaGreatDoor

namespace Go.Proofs.YtiphdedfbafhkaaGreatDoor
open Go.RowKit

section
variable {c c' : Nat → Nat} {k K : Nat} {w w' : World} {p q gp sh cid : Nat} {cl ca sc : Int} {ids : List Int} {la : List Int} {s : Int}

theorem region_quiet_sn {P : Program} {C : World → Prop} {id : Nat} {Q : Exit → Act → World → Prop} {a : Act} {w : World} {l : List Oper} (hm : P.follows .mixedOrders = true) (hB : Region.lexB .any l.toArray = true) (hC : C w.drew)
    (h : wpQuiet P l.toArray C (fun a' => ∀ w', C w' → Q .normal a' w') l a) : (Code.region id l.toArray true).wp P Q a w :=
  wp_region_quiet (C := C) hm hB hC (by simpa using h)
theorem stp_cls (c0 : Nat → Nat) (w0 : World) : ∃ (T : Type) (f : T → World), Nonempty T ∧ (∀ t, ∃ c', Stp (fun _ => False) c0 c' w0 (f t)) ∧ (∀ (w' : World) (c' : Nat → Nat), Stp (fun _ => False) c0 c' w0 w' → ∃ t, w' = f t) :=
  ⟨{v : World // ∃ c', Stp (fun _ => False) c0 c' w0 v}, Subtype.val, ⟨⟨_, _, Stp.refl _ _ _⟩⟩, fun t => t.2, fun w' c' h => ⟨⟨w', c', h⟩, rfl⟩⟩

theorem cells7 {c : Nat → Nat} {k : Nat} {w : World} {b : Nat} {t : TypeId} {v0 v1 v2 v3 v4 v5 v6 : Value} (h : Blk c k w b [v0, v1, v2, v3, v4, v5, v6] t) :
    w.cell? ⟨b, 0, none⟩ = some v0 ∧ w.cell? ⟨b, 1, none⟩ = some v1 ∧ w.cell? ⟨b, 2, none⟩ = some v2 ∧ w.cell? ⟨b, 3, none⟩ = some v3 ∧ w.cell? ⟨b, 4, none⟩ = some v4 ∧ w.cell? ⟨b, 5, none⟩ = some v5 ∧ w.cell? ⟨b, 6, none⟩ = some v6 :=
  ⟨by simpa using h.cell 0, by simpa using h.cell 1, by simpa using h.cell 2, by simpa using h.cell 3, by simpa using h.cell 4, by simpa using h.cell 5, by simpa using h.cell 6⟩
theorem frees7 {c : Nat → Nat} {k : Nat} {w : World} {b : Nat} {t : TypeId} {cs : List Value} (h : Blk c k w b cs t) :
    w.frozen? ⟨b, 0, none⟩ = false ∧ w.frozen? ⟨b, 1, none⟩ = false ∧ w.frozen? ⟨b, 2, none⟩ = false ∧ w.frozen? ⟨b, 3, none⟩ = false ∧ w.frozen? ⟨b, 4, none⟩ = false ∧ w.frozen? ⟨b, 5, none⟩ = false ∧ w.frozen? ⟨b, 6, none⟩ = false :=
  ⟨h.free 0, h.free 1, h.free 2, h.free 3, h.free 4, h.free 5, h.free 6⟩

theorem SnAt.put_cl (h : SnAt c k w p q gp sh cid cl ca sc ids) (v : Int) : SnAt c k (w.setCell ⟨p, 3, none⟩ (.int .i64 v)) p q gp sh cid v ca sc ids :=
  ⟨h.st.set 3 (.int .i64 v), h.gr.stp ((Stp.refl (· = k) c w).setCell (p := ⟨p, 3, none⟩) (.int .i64 v) h.st.1) (by omega)⟩

/-- Slots, out of an order of a region's operations. -/
theorem snslots (h : SnAt c k w p q gp sh cid cl ca sc ids) (hsh : sh < 21) {c0 : Nat → Nat} {W : World} (hW : Stp (fun _ => False) c c0 w W) :
    Calls Tryz.prog 30 #[.agg #[.int .i64 sh]] W fun e w' => e = .returned (.int .i64 (2 ^ sh)) ∧ ∃ c', Hid (Stp (fun _ => False) c c' w w') ∧ Hid (Stp (fun _ => False) c0 c' W w') ∧ Hid (SnAt c' k w' p q gp sh cid cl ca sc ids) ∧ w'.cell? ⟨p, 1, none⟩ = some (.int .i64 sh) ∧ w'.cell? ⟨p, 3, none⟩ = some (.int .i64 cl) ∧ w'.cell? ⟨p, 4, none⟩ = some (.int .i64 ca) :=
  (slots_k sh hsh W).mono fun _ w' ⟨he, hw⟩ => by
    subst hw
    have t := hW.alloc (.cells #[.int .i64 sh] 65) 0
    have h1 := h.stp t id id
    exact ⟨he, _, Lib.hid t, Lib.hid ((Stp.refl (fun _ => False) c0 W).alloc (.cells #[.int .i64 sh] 65) 0), Lib.hid h1, h1.cs.2.1, h1.cs.2.2.2.1, h1.cs.2.2.2.2.1⟩

set_option maxRecDepth 100000 in
set_option maxHeartbeats 1000000 in
theorem sntry_done (hk0 : k ≠ 0) (h : SnAt c k w p q gp sh cid cl ca sc ids) (hsh : sh < 21) (n : Int) (h1 : 1 ≤ n) (h2 : n ≤ 2 ^ sh) (hn : nextErr cl n = 0) (hb : -1 ≤ cl ∧ cl ≤ 4611686018427387904) (hd : cl + n - 2 ^ sh ≤ ca) (hd2 : ca ≤ cl) :
    Calls Tryz.prog 56 #[.pointer (some ⟨p, 0, none⟩), .int .i64 n] w fun e w' => e = .returned (.tuple #[.agg #[.pointer (some ⟨p, 0, none⟩), .int .i64 (cl + n), .slice none 0 0, .int .i64 0, .bool false, .bool true, .bool false], .nilIface]) ∧ ∃ c', Stp (· = k) c c' w w' ∧ SnAt c' k w' p q gp sh cid (cl + n) ca sc ids := by
  have hp2 := two_pow_bd sh hsh
  have t1 : decide (n < 1) = false := by simp only [decide_eq_false_iff_not]; omega
  have t2 : decide ((2 : Int) ^ sh < n) = false := by simp only [decide_eq_false_iff_not]; omega
  have t3 : decide (cl + n - 2 ^ sh ≤ ca) = true := by simpa using hd
  have t4 : decide (ca ≤ cl) = true := by simpa using hd2
  have hw1 : -9223372036854775808 ≤ cl + n - 2 ^ sh ∧ cl + n - 2 ^ sh ≤ 9223372036854775807 := by omega
  have W1 : wrap64 (cl + n - 2 ^ sh) = cl + n - 2 ^ sh := IntWalk.wrap64_in _ hw1
  have V1 : IntKind.i64.wrap (cl + n - 2 ^ sh) = cl + n - 2 ^ sh := (IntWalk.i64_left _).trans W1
  have H := Lib.hid h
  have Hsh := Lib.hid hsh
  have Hn := Lib.hid hn
  obtain ⟨x0, x1, x2, x3, x4, x5, x6⟩ := h.cs
  clear h hsh hn hb hd hd2 hw1 hp2 h1 h2 x0 x2 x4 x5 x6
  go_enter Tryz.func56, Tryz.ntmps56
  have lp := H.out.st.lt
  have A0 := (Stp.refl (fun _ => False) c w).alloc (.cells #[.pointer none, .int .i64 0, .slice none 0 0, .int .i64 0, .bool false, .bool false, .bool false] 33) 0
  have B0 := Lib.hid (Blk.new c 0 w [.pointer none, .int .i64 0, .slice none 0 0, .int .i64 0, .bool false, .bool false, .bool false] 33)
  go_wp2_with fail
  refine (snslots H.out Hsh.out A0).mono ?_
  rintro e w2 ⟨rfl, c2, T2, U2, N2, y1, y3, y4⟩
  have B2 := Lib.hid (B0.out.stp U2.out id)
  go_wp2_with fail
  refine (pnext_ok cl n Hn.out _).mono ?_
  rintro e w3 ⟨rfl, rfl⟩
  have A3 := (Stp.refl (fun _ => False) c2 w2).alloc (.cells #[.pointer (some ⟨p, 0, none⟩), .int .i64 (cl + n), .slice none 0 0, .int .i64 0, .bool false, .bool false, .bool false] 33) 0
  have N3 := Lib.hid (N2.out.stp A3 id id)
  have T3 := Lib.hid (Blk.new c2 0 w2 [.pointer (some ⟨p, 0, none⟩), .int .i64 (cl + n), .slice none 0 0, .int .i64 0, .bool false, .bool false, .bool false] 33)
  have B3 := Lib.hid (B2.out.stp A3 id)
  have hs2 := T2.out.size
  have ne1 : ¬ p = w2.heap.size := by omega
  have ne2 : ¬ w.heap.size = w2.heap.size := by have := B2.out.lt; omega
  have ne3 : ¬ p = w.heap.size := by omega
  have hsl := fun (W : World) (hW : Stp (fun _ => False) (paint c2 w2.heap.size 0) (paint c2 w2.heap.size 0) (w2.alloc (.cells #[.pointer (some ⟨p, 0, none⟩), .int .i64 (cl + n), .slice none 0 0, .int .i64 0, .bool false, .bool false, .bool false] 33)) W) => snslots N3.out Hsh.out hW
  have HSL := Lib.hid hsl
  clear hsl A0 hs2 y1 y3 y4 x1 x3
  obtain ⟨z0, z1, z2, z3, z4, z5, z6⟩ := N3.out.cs
  go_wp2
  go_region_held3 (fun w' => w'.cell? ⟨p, 1, none⟩ = some (.int .i64 sh) ∧ w'.cell? ⟨p, 3, none⟩ = some (.int .i64 cl) ∧ w'.cell? ⟨p, 4, none⟩ = some (.int .i64 ca))
    (first | exact ⟨by assumption, by assumption, by assumption⟩ | go_keep)
    (first | (go_at_call 30; refine (HSL.out _ (by first | exact (Stp.refl _ _ _).drew | exact Stp.refl _ _ _)).mono ?_; rintro e w4 ⟨rfl, c4, T4, U4, N4, z1, z3, z4⟩))
  have Q4 := Lib.hid (T3.out.stp T4.out id)
  have B4 := Lib.hid (B3.out.stp T4.out id)
  have S4 := Lib.hid ((T2.out.trans A3).trans T4.out)
  obtain ⟨b0, b1, b2, b3, b4, b5, b6⟩ := N4.out.cs
  have f3 := N4.out.st.free 3
  obtain ⟨q0, q1, q2, q3, q4, q5, q6⟩ := cells7 Q4.out
  obtain ⟨e0, e1, e2, e3, e4, e5, e6⟩ := cells7 B4.out
  have fq := Q4.out.free 5
  obtain ⟨k0, k1, k2, k3, k4, k5, k6⟩ := frees7 B4.out
  have lq := Q4.out.lt
  have lb := B4.out.lt
  have ne4 := Lib.hid ne1
  have hw4 := Lib.hid S4.out.size
  clear A3 z0 z1 z2 z3 z4 z5 z6
  have P5 := N4.out.put_cl (cl + n)
  have T5 := (S4.out.mono (J' := (· = k)) (fun _ h => h.elim)).setCell (p := ⟨p, 3, none⟩) (.int .i64 (cl + n)) N4.out.st.1
  have g1 := hw4.out
  have g2 := T2.out.size
  have HK := Lib.hid hk0
  clear hw4 g1
  go_wp2
  exact bodyPost_ret (v := .tuple #[.agg #[.pointer (some ⟨p, 0, none⟩), .int .i64 (cl + n), .slice none 0 0, .int .i64 0, .bool false, .bool true, .bool false], .nilIface]) (by clear HSL T4 U4 S4 P5 T5 Q4 B4 N4 T2 U2 N2 B2 B3 N3 T3 B0 H Hsh Hn HK ne4; simp [results, Tryz.results56, go_sem, *]) rfl
    ⟨rfl, c4, (((((((T5.setNew _ g2).setNew _ (Nat.le_refl _)).setNew _ (Nat.le_refl _)).setNew _ (Nat.le_refl _)).setNew _ (Nat.le_refl _)).setNew _ (Nat.le_refl _)).setNew _ (Nat.le_refl _)).setNew _ (Nat.le_refl _),
      P5.stp (((((((((Stp.refl (· = 0) c4 _).setCell (p := ⟨w2.heap.size, 5, none⟩) _ Q4.out.1).setCell (p := ⟨w.heap.size, 0, none⟩) _ B4.out.1).setCell (p := ⟨w.heap.size, 1, none⟩) _ B4.out.1).setCell (p := ⟨w.heap.size, 2, none⟩) _ B4.out.1).setCell (p := ⟨w.heap.size, 3, none⟩) _ B4.out.1).setCell (p := ⟨w.heap.size, 4, none⟩) _ B4.out.1).setCell (p := ⟨w.heap.size, 5, none⟩) _ B4.out.1).setCell (p := ⟨w.heap.size, 6, none⟩) _ B4.out.1) HK.out (by omega)⟩

set_option maxRecDepth 100000 in
set_option maxHeartbeats 1000000 in
theorem sntry_wait (hk0 : k ≠ 0) (h : SnAt c k w p q gp sh cid cl ca sc ids) (hsh : sh < 21) (n : Int) (h1 : 1 ≤ n) (h2 : n ≤ 2 ^ sh) (hn : nextErr cl n = 0) (hb : -1 ≤ cl ∧ cl ≤ 4611686018427387904) (hd : ca < cl + n - 2 ^ sh) :
    Calls Tryz.prog 56 #[.pointer (some ⟨p, 0, none⟩), .int .i64 n] w fun e w' => e = .returned (.tuple #[.agg #[.pointer (some ⟨p, 0, none⟩), .int .i64 (cl + n), .slice none 0 0, .int .i64 0, .bool false, .bool false, .bool false], .nilIface]) ∧ ∃ c', Stp (fun _ => False) c c' w w' ∧ SnAt c' k w' p q gp sh cid cl ca sc ids := by
  have hp2 := two_pow_bd sh hsh
  have t1 : decide (n < 1) = false := by simp only [decide_eq_false_iff_not]; omega
  have t2 : decide ((2 : Int) ^ sh < n) = false := by simp only [decide_eq_false_iff_not]; omega
  have t3 : decide (cl + n - 2 ^ sh ≤ ca) = false := by simpa using hd
  have hw1 : -9223372036854775808 ≤ cl + n - 2 ^ sh ∧ cl + n - 2 ^ sh ≤ 9223372036854775807 := by omega
  have W1 : wrap64 (cl + n - 2 ^ sh) = cl + n - 2 ^ sh := IntWalk.wrap64_in _ hw1
  have V1 : IntKind.i64.wrap (cl + n - 2 ^ sh) = cl + n - 2 ^ sh := (IntWalk.i64_left _).trans W1
  have H := Lib.hid h
  have Hsh := Lib.hid hsh
  have Hn := Lib.hid hn
  obtain ⟨x0, x1, x2, x3, x4, x5, x6⟩ := h.cs
  clear h hsh hn hb hd hw1 hp2 h1 h2 x0 x2 x4 x5 x6
  go_enter Tryz.func56, Tryz.ntmps56
  have lp := H.out.st.lt
  have A0 := (Stp.refl (fun _ => False) c w).alloc (.cells #[.pointer none, .int .i64 0, .slice none 0 0, .int .i64 0, .bool false, .bool false, .bool false] 33) 0
  have B0 := Lib.hid (Blk.new c 0 w [.pointer none, .int .i64 0, .slice none 0 0, .int .i64 0, .bool false, .bool false, .bool false] 33)
  go_wp2_with fail
  refine (snslots H.out Hsh.out A0).mono ?_
  rintro e w2 ⟨rfl, c2, T2, U2, N2, y1, y3, y4⟩
  have B2 := Lib.hid (B0.out.stp U2.out id)
  go_wp2_with fail
  refine (pnext_ok cl n Hn.out _).mono ?_
  rintro e w3 ⟨rfl, rfl⟩
  have A3 := (Stp.refl (fun _ => False) c2 w2).alloc (.cells #[.pointer (some ⟨p, 0, none⟩), .int .i64 (cl + n), .slice none 0 0, .int .i64 0, .bool false, .bool false, .bool false] 33) 0
  have N3 := Lib.hid (N2.out.stp A3 id id)
  have T3 := Lib.hid (Blk.new c2 0 w2 [.pointer (some ⟨p, 0, none⟩), .int .i64 (cl + n), .slice none 0 0, .int .i64 0, .bool false, .bool false, .bool false] 33)
  have B3 := Lib.hid (B2.out.stp A3 id)
  have hs2 := T2.out.size
  have ne1 : ¬ p = w2.heap.size := by omega
  have ne2 : ¬ w.heap.size = w2.heap.size := by have := B2.out.lt; omega
  have ne3 : ¬ p = w.heap.size := by omega
  go_upto_region 9 with fail
  obtain ⟨T, f, hne, hT, hS⟩ := stp_cls (paint c2 w2.heap.size 0) (w2.alloc (.cells #[.pointer (some ⟨p, 0, none⟩), .int .i64 (cl + n), .slice none 0 0, .int .i64 0, .bool false, .bool false, .bool false] 33))
  have HT := Lib.hid hT
  have HS := Lib.hid hS
  clear hT hS A0 hs2 y1 y3 y4 x1 x3
  refine region_quiet_sn (C := fun w' => ∃ t : T, w' = f t) (by kernel_rfl) (by kernel_rfl) (HS.out _ _ (Stp.refl _ _ _).drew) ?_
  have qs1 : ∀ t : T, (f t).cell? ⟨p, 1, none⟩ = some (.int .i64 sh) := fun t => by obtain ⟨_, h⟩ := HT.out t; exact (N3.out.stp h id id).cs.2.1
  have qs3 : ∀ t : T, (f t).cell? ⟨p, 3, none⟩ = some (.int .i64 cl) := fun t => by obtain ⟨_, h⟩ := HT.out t; exact (N3.out.stp h id id).cs.2.2.2.1
  have qs4 : ∀ t : T, (f t).cell? ⟨p, 4, none⟩ = some (.int .i64 ca) := fun t => by obtain ⟨_, h⟩ := HT.out t; exact (N3.out.stp h id id).cs.2.2.2.2.1
  repeat
    with_reducible refine wpQuiet_step ?_
    intro Kq hKq
    go_simp
    first
      | (with_reducible refine hKq _ ?_; clear hKq Kq)
      | (apply Exists.intro
         refine ⟨fun _ => ?_, hKq _ ?_⟩
         (go_at_call 30; obtain ⟨cn, rn⟩ := HT.out ‹T›; refine (slots_k sh Hsh.out _).mono ?_; rintro e w' ⟨rfl, rfl⟩; have h9 := HS.out _ _ (rn.alloc (.cells #[.int .i64 sh] 65) 0); exact ⟨rfl, h9⟩)
         clear hKq Kq)
  refine wpQuiet_nil ?_
  intro _ hw'
  obtain ⟨tt, hw''⟩ := hw'
  subst hw''
  obtain ⟨w4, hw4⟩ : ∃ w4, w4 = f tt := ⟨_, rfl⟩
  obtain ⟨c4, r4⟩ := HT.out tt
  rw [← hw4] at r4 ⊢
  have T4 := Lib.hid r4
  have N4 := Lib.hid (N3.out.stp r4 id id)
  clear r4 hw4 qs1 qs3 qs4
  have Q4 := Lib.hid (T3.out.stp T4.out id)
  have B4 := Lib.hid (B3.out.stp T4.out id)
  have S4 := Lib.hid ((T2.out.trans A3).trans T4.out)
  obtain ⟨b0, b1, b2, b3, b4, b5, b6⟩ := N4.out.cs
  have f3 := N4.out.st.free 3
  obtain ⟨q0, q1, q2, q3, q4, q5, q6⟩ := cells7 Q4.out
  obtain ⟨e0, e1, e2, e3, e4, e5, e6⟩ := cells7 B4.out
  have fq := Q4.out.free 5
  obtain ⟨k0, k1, k2, k3, k4, k5, k6⟩ := frees7 B4.out
  have lq := Q4.out.lt
  have lb := B4.out.lt
  have ne4 := Lib.hid ne1
  have hw4 := Lib.hid S4.out.size
  clear A3
  have g2 := T2.out.size
  clear hw4
  go_wp2
  exact bodyPost_ret (v := .tuple #[.agg #[.pointer (some ⟨p, 0, none⟩), .int .i64 (cl + n), .slice none 0 0, .int .i64 0, .bool false, .bool false, .bool false], .nilIface]) (by clear HS HT T4 S4 Q4 B4 N4 T2 U2 N2 B2 B3 N3 T3 B0 H Hsh Hn ne4; simp [results, Tryz.results56, go_sem, *]) rfl
    ⟨rfl, c4, ((((((S4.out.setNew _ (Nat.le_refl _)).setNew _ (Nat.le_refl _)).setNew _ (Nat.le_refl _)).setNew _ (Nat.le_refl _)).setNew _ (Nat.le_refl _)).setNew _ (Nat.le_refl _)).setNew _ (Nat.le_refl _),
      N4.out.stp ((((((((Stp.refl (· = 0) c4 _).setCell (p := ⟨w.heap.size, 0, none⟩) _ B4.out.1).setCell (p := ⟨w.heap.size, 1, none⟩) _ B4.out.1).setCell (p := ⟨w.heap.size, 2, none⟩) _ B4.out.1).setCell (p := ⟨w.heap.size, 3, none⟩) _ B4.out.1).setCell (p := ⟨w.heap.size, 4, none⟩) _ B4.out.1).setCell (p := ⟨w.heap.size, 5, none⟩) _ B4.out.1).setCell (p := ⟨w.heap.size, 6, none⟩) _ B4.out.1) hk0 (by omega)⟩
end
end Go.Proofs.YtiphdedfbafhkaaGreatDoor

namespace Go.Proofs.YtiphdedfbafhkaaGreatDoor
open Go.RowKit

section
variable {c c' : Nat → Nat} {k K : Nat} {w w' : World} {p q gp sh cid : Nat} {cl ca sc : Int} {ids : List Int} {la : List Int}

theorem SnAt.put_sc (h : SnAt c k w p q gp sh cid cl ca sc ids) (v : Int) : SnAt c k (w.setCell ⟨p, 6, none⟩ (.int .i64 v)) p q gp sh cid cl ca v ids :=
  ⟨h.st.set 6 (.int .i64 v), h.gr.stp ((Stp.refl (· = k) c w).setCell (p := ⟨p, 6, none⟩) (.int .i64 v) h.st.1) (by omega)⟩
theorem SnAt.put_ca (h : SnAt c k w p q gp sh cid cl ca sc ids) (v : Int) : SnAt c k (w.setCell ⟨p, 4, none⟩ (.int .i64 v)) p q gp sh cid cl v sc ids :=
  ⟨h.st.set 4 (.int .i64 v), h.gr.stp ((Stp.refl (· = k) c w).setCell (p := ⟨p, 4, none⟩) (.int .i64 v) h.st.1) (by omega)⟩

/-- A step, part of the way: the sequencer, the arena, the try's two boxes (x: what came in; y: the result's). -/
structure ST (c0 : Nat → Nat) (w0 : World) (k K p q gp sh cid : Nat) (cl ca sc : Int) (ids la : List Int) (x y : Nat) (cs : List Value) (c : Nat → Nat) (w : World) : Prop where
  st : Stp (fun j => j = k ∨ j = K) c0 c w0 w
  sn : SnAt c k w p q gp sh cid cl ca sc ids
  ar : ArenaS c K w q la
  bx : Blk c 0 w x cs 33
  by' : Blk c 0 w y [.pointer none, .int .i64 0, .slice none 0 0, .int .i64 0, .bool false, .bool false, .bool false] 33
  xo : w0.heap.size ≤ x
  yo : w0.heap.size ≤ y
  xy : x ≠ y
  kk : 2 ≤ k ∧ 2 ≤ K ∧ k ≠ K ∧ k + 1 ≠ K ∧ k + 2 ≠ K

section
variable {c0 : Nat → Nat} {w0 : World} {x y : Nat} {cs : List Value}
theorem ST.stpF (h : ST c0 w0 k K p q gp sh cid cl ca sc ids la x y cs c w) (t : Stp (fun _ => False) c c' w w') : ST c0 w0 k K p q gp sh cid cl ca sc ids la x y cs c' w' :=
  ⟨h.st.trans (t.mono fun _ h => h.elim), h.sn.stp t id id, h.ar.stp t id, h.bx.stp t id, h.by'.stp t id, h.xo, h.yo, h.xy, h.kk⟩
theorem ST.arena (h : ST c0 w0 k K p q gp sh cid cl ca sc ids la x y cs c w) (t : Stp (· = K) c c' w w') {la' : List Int} (a : ArenaS c' K w' q la') : ST c0 w0 k K p q gp sh cid cl ca sc ids la' x y cs c' w' :=
  ⟨h.st.trans (t.mono fun _ h => .inr h), h.sn.stp t h.kk.2.2.1 h.kk.2.2.2.1, a, h.bx.stp t (by have := h.kk; omega), h.by'.stp t (by have := h.kk; omega), h.xo, h.yo, h.xy, h.kk⟩
theorem ST.put (h : ST c0 w0 k K p q gp sh cid cl ca sc ids la x y cs c w) (i : Nat) (v : Value) : ST c0 w0 k K p q gp sh cid cl ca sc ids la x y (cs.set i v) c (w.setCell ⟨x, i, none⟩ v) := by
  have t : Stp (· = 0) c c w (w.setCell ⟨x, i, none⟩ v) := (Stp.refl (· = 0) c w).setCell (p := ⟨x, i, none⟩) v h.bx.1
  exact ⟨h.st.setNew v h.xo, h.sn.stp t (by have := h.kk; omega) (by omega), h.ar.stp t (by have := h.kk; omega), h.bx.set i v, h.by'.other v h.xy, h.xo, h.yo, h.xy, h.kk⟩
theorem ST.put_cl (h : ST c0 w0 k K p q gp sh cid cl ca sc ids la x y cs c w) (v : Int) : ST c0 w0 k K p q gp sh cid v ca sc ids la x y cs c (w.setCell ⟨p, 3, none⟩ (.int .i64 v)) := by
  have t : Stp (· = k) c c w (w.setCell ⟨p, 3, none⟩ (.int .i64 v)) := (Stp.refl (· = k) c w).setCell (p := ⟨p, 3, none⟩) _ h.sn.st.1
  exact ⟨h.st.trans (t.mono fun _ h => .inl h), h.sn.put_cl v, h.ar.stp t (Ne.symm h.kk.2.2.1), h.bx.stp t (by have := h.kk; omega), h.by'.stp t (by have := h.kk; omega), h.xo, h.yo, h.xy, h.kk⟩
theorem ST.put_ca (h : ST c0 w0 k K p q gp sh cid cl ca sc ids la x y cs c w) (v : Int) : ST c0 w0 k K p q gp sh cid cl v sc ids la x y cs c (w.setCell ⟨p, 4, none⟩ (.int .i64 v)) := by
  have t : Stp (· = k) c c w (w.setCell ⟨p, 4, none⟩ (.int .i64 v)) := (Stp.refl (· = k) c w).setCell (p := ⟨p, 4, none⟩) _ h.sn.st.1
  exact ⟨h.st.trans (t.mono fun _ h => .inl h), h.sn.put_ca v, h.ar.stp t (Ne.symm h.kk.2.2.1), h.bx.stp t (by have := h.kk; omega), h.by'.stp t (by have := h.kk; omega), h.xo, h.yo, h.xy, h.kk⟩
theorem ST.put_sc (h : ST c0 w0 k K p q gp sh cid cl ca sc ids la x y cs c w) (v : Int) : ST c0 w0 k K p q gp sh cid cl ca v ids la x y cs c (w.setCell ⟨p, 6, none⟩ (.int .i64 v)) := by
  have t : Stp (· = k) c c w (w.setCell ⟨p, 6, none⟩ (.int .i64 v)) := (Stp.refl (· = k) c w).setCell (p := ⟨p, 6, none⟩) _ h.sn.st.1
  exact ⟨h.st.trans (t.mono fun _ h => .inl h), h.sn.put_sc v, h.ar.stp t (Ne.symm h.kk.2.2.1), h.bx.stp t (by have := h.kk; omega), h.by'.stp t (by have := h.kk; omega), h.xo, h.yo, h.xy, h.kk⟩
theorem ST.start (h : SnAt c k w p q gp sh cid cl ca sc ids) (ha : ArenaS c K w q la) (hk : 2 ≤ k ∧ 2 ≤ K ∧ k ≠ K ∧ k + 1 ≠ K ∧ k + 2 ≠ K) (v0 v1 v2 v3 v4 v5 v6 : Value) :
    ST c w k K p q gp sh cid cl ca sc ids la w.heap.size (w.heap.size + 1) [v0, v1, v2, v3, v4, v5, v6] (paint (paint c w.heap.size 0) (w.heap.size + 1) 0) ((w.alloc (.cells #[v0, v1, v2, v3, v4, v5, v6] 33)).alloc (.cells #[.pointer none, .int .i64 0, .slice none 0 0, .int .i64 0, .bool false, .bool false, .bool false] 33)) := by
  have t1 := (Stp.refl (fun _ => False) c w).alloc (.cells #[v0, v1, v2, v3, v4, v5, v6] 33) 0
  have b1 := Blk.new c 0 w [v0, v1, v2, v3, v4, v5, v6] 33
  have t2 := (Stp.refl (fun _ => False) (paint c w.heap.size 0) (w.alloc (.cells #[v0, v1, v2, v3, v4, v5, v6] 33))).alloc (.cells #[.pointer none, .int .i64 0, .slice none 0 0, .int .i64 0, .bool false, .bool false, .bool false] 33) 0
  have b2 := Blk.new (paint c w.heap.size 0) 0 (w.alloc (.cells #[v0, v1, v2, v3, v4, v5, v6] 33)) [.pointer none, .int .i64 0, .slice none 0 0, .int .i64 0, .bool false, .bool false, .bool false] 33
  rw [show (w.alloc (.cells #[v0, v1, v2, v3, v4, v5, v6] 33)).heap.size = w.heap.size + 1 by simp] at t2 b2
  have t := t1.trans t2
  exact ⟨t.mono fun _ h => h.elim, h.stp t id id, ha.stp t id, b1.stp t2 id, b2, Nat.le_refl _, Nat.le_succ _, by omega, hk⟩
/-- Its calls. -/
theorem ST.load_c (h : ST c0 w0 k K p q gp sh cid cl ca sc ids la x y cs c w) {pv : Value} {cs' : List Value} (e : cs = pv :: cs') (hc : cid < la.length) {W : World} (hW : Stp (fun _ => False) c c w W) :
    Calls Tryz.prog 37 #[.pointer (some ⟨q, 0, none⟩), .int .i64 cid] W fun e w' => e = .returned (.tuple #[.int .i64 (la.getD cid 0), .nilIface]) ∧ ∃ c', Hid (ST c0 w0 k K p q gp sh cid cl ca sc ids la x y cs c' w') ∧ (w'.cell? ⟨x, 0, none⟩ = some pv ∧ w'.cell? ⟨p, 0, none⟩ = some (.pointer (some ⟨q, 0, none⟩)) ∧ w'.cell? ⟨p, 2, none⟩ = some (.int .i64 cid)) := by
  subst e
  have h1 := h.stpF hW
  refine (load_s h1.ar cid hc).mono ?_
  rintro e w' ⟨rfl, c', t, a⟩
  have h2 := h1.arena t a
  have hx := h2.bx.cell 0
  have h3 := cells7 h2.sn.st
  exact ⟨rfl, c', Lib.hid h2, by simpa using hx, h3.1, h3.2.2.1⟩
theorem ST.scan_c (h : ST c0 w0 k K p q gp sh cid cl ca sc ids la x y cs c w) (hl : (ids.length : Int) ≤ 1048576) (most : Int) :
    Calls Tryz.prog 118 #[.pointer (some ⟨gp, 0, none⟩), .int .i64 most] w fun e w' => ∃ ao' cap', e = .returned (.agg #[.slice ao' ids.length cap', .int .i64 most]) ∧ ∃ c', Hid (ST c0 w0 k K p q gp sh cid cl ca sc ids la x y cs c' w') ∧ In c' (k + 2) w' 1 ao' ids.length cap' (ids.map (Value.int .i64)) := by
  refine (gscan_any h.sn.gr (k + 2) hl most).mono ?_
  rintro e w' ⟨ao', cap', rfl, c', t, r⟩
  exact ⟨ao', cap', rfl, c', Lib.hid (h.stpF t), r.toIn⟩
theorem ST.slots_c (h : ST c0 w0 k K p q gp sh cid cl ca sc ids la x y cs c w) (hsh : sh < 21) {v0 v1 v2 v3 v4 v5 v6 : Value} (e : cs = [v0, v1, v2, v3, v4, v5, v6]) {W : World} (hW : Stp (fun _ => False) c c w W) :
    Calls Tryz.prog 30 #[.agg #[.int .i64 sh]] W fun e w' => e = .returned (.int .i64 (2 ^ sh)) ∧ ∃ c', Hid (ST c0 w0 k K p q gp sh cid cl ca sc ids la x y cs c' w') ∧ (w'.cell? ⟨x, 0, none⟩ = some v0 ∧ w'.cell? ⟨x, 1, none⟩ = some v1 ∧ w'.cell? ⟨p, 1, none⟩ = some (.int .i64 sh)) ∧ (w'.frozen? ⟨p, 4, none⟩ = false ∧ w'.frozen? ⟨x, 5, none⟩ = false ∧ w'.frozen? ⟨x, 6, none⟩ = false) ∧ (w'.cell? ⟨p, 4, none⟩ = some (.int .i64 ca) ∧ w'.cell? ⟨x, 5, none⟩ = some v5 ∧ w'.cell? ⟨x, 6, none⟩ = some v6) := by
  subst e
  have h1 := h.stpF hW
  refine (slots_k sh hsh W).mono ?_
  rintro e w' ⟨rfl, rfl⟩
  have h2 := h1.stpF ((Stp.refl (fun _ => False) c W).alloc (.cells #[.int .i64 sh] 65) 0)
  have a := cells7 h2.bx
  have b := cells7 h2.sn.st
  exact ⟨rfl, _, Lib.hid h2, ⟨a.1, a.2.1, b.2.1⟩, ⟨h2.sn.st.free 4, h2.bx.free 5, h2.bx.free 6⟩, b.2.2.2.2.1, a.2.2.2.2.2.1, a.2.2.2.2.2.2⟩

/-- The cells. -/
theorem ST.xs {v0 v1 v2 v3 v4 v5 v6 : Value} (h : ST c0 w0 k K p q gp sh cid cl ca sc ids la x y [v0, v1, v2, v3, v4, v5, v6] c w) :
    (w.cell? ⟨x, 0, none⟩ = some v0 ∧ w.cell? ⟨x, 1, none⟩ = some v1 ∧ w.cell? ⟨x, 2, none⟩ = some v2 ∧ w.cell? ⟨x, 3, none⟩ = some v3 ∧ w.cell? ⟨x, 4, none⟩ = some v4 ∧ w.cell? ⟨x, 5, none⟩ = some v5 ∧ w.cell? ⟨x, 6, none⟩ = some v6) ∧
    (w.frozen? ⟨x, 0, none⟩ = false ∧ w.frozen? ⟨x, 1, none⟩ = false ∧ w.frozen? ⟨x, 2, none⟩ = false ∧ w.frozen? ⟨x, 3, none⟩ = false ∧ w.frozen? ⟨x, 4, none⟩ = false ∧ w.frozen? ⟨x, 5, none⟩ = false ∧ w.frozen? ⟨x, 6, none⟩ = false) ∧ x < w.heap.size :=
  ⟨cells7 h.bx, frees7 h.bx, h.bx.lt⟩
theorem ST.ss (h : ST c0 w0 k K p q gp sh cid cl ca sc ids la x y cs c w) :
    (w.cell? ⟨p, 0, none⟩ = some (.pointer (some ⟨q, 0, none⟩)) ∧ w.cell? ⟨p, 1, none⟩ = some (.int .i64 sh) ∧ w.cell? ⟨p, 2, none⟩ = some (.int .i64 cid) ∧ w.cell? ⟨p, 3, none⟩ = some (.int .i64 cl) ∧ w.cell? ⟨p, 4, none⟩ = some (.int .i64 ca) ∧ w.cell? ⟨p, 5, none⟩ = some (.pointer (some ⟨gp, 0, none⟩)) ∧ w.cell? ⟨p, 6, none⟩ = some (.int .i64 sc)) ∧
    (w.frozen? ⟨p, 3, none⟩ = false ∧ w.frozen? ⟨p, 4, none⟩ = false ∧ w.frozen? ⟨p, 6, none⟩ = false) ∧ p < w.heap.size :=
  ⟨cells7 h.sn.st, ⟨h.sn.st.free 3, h.sn.st.free 4, h.sn.st.free 6⟩, h.sn.st.lt⟩
theorem ST.ys (h : ST c0 w0 k K p q gp sh cid cl ca sc ids la x y cs c w) :
    (w.frozen? ⟨y, 0, none⟩ = false ∧ w.frozen? ⟨y, 1, none⟩ = false ∧ w.frozen? ⟨y, 2, none⟩ = false ∧ w.frozen? ⟨y, 3, none⟩ = false ∧ w.frozen? ⟨y, 4, none⟩ = false ∧ w.frozen? ⟨y, 5, none⟩ = false ∧ w.frozen? ⟨y, 6, none⟩ = false) ∧
    (w.cell? ⟨y, 0, none⟩ = some (.pointer none) ∧ w.cell? ⟨y, 1, none⟩ = some (.int .i64 0) ∧ w.cell? ⟨y, 2, none⟩ = some (.slice none 0 0) ∧ w.cell? ⟨y, 3, none⟩ = some (.int .i64 0) ∧ w.cell? ⟨y, 4, none⟩ = some (.bool false) ∧ w.cell? ⟨y, 5, none⟩ = some (.bool false) ∧ w.cell? ⟨y, 6, none⟩ = some (.bool false)) ∧ y < w.heap.size ∧ x ≠ y ∧ x ≠ p ∧ y ≠ p :=
  ⟨frees7 h.by', cells7 h.by', h.by'.lt, h.xy, (fun e => by have := h.bx.1; rw [e, h.sn.st.1] at this; have := h.kk; omega), (fun e => by have := h.by'.1; rw [e, h.sn.st.1] at this; have := h.kk; omega)⟩
/-- What was copied into the result's box is the try's. -/
theorem ST.res (h : ST c0 w0 k K p q gp sh cid cl ca sc ids la x y cs c w) (v0 v1 v2 v3 v4 v5 v6 : Value) :
    ∃ c', Stp (fun j => j = k ∨ j = K) c0 c' w0 (((((((w.setCell ⟨y, 0, none⟩ v0).setCell ⟨y, 1, none⟩ v1).setCell ⟨y, 2, none⟩ v2).setCell ⟨y, 3, none⟩ v3).setCell ⟨y, 4, none⟩ v4).setCell ⟨y, 5, none⟩ v5).setCell ⟨y, 6, none⟩ v6) ∧
      SnAt c' k (((((((w.setCell ⟨y, 0, none⟩ v0).setCell ⟨y, 1, none⟩ v1).setCell ⟨y, 2, none⟩ v2).setCell ⟨y, 3, none⟩ v3).setCell ⟨y, 4, none⟩ v4).setCell ⟨y, 5, none⟩ v5).setCell ⟨y, 6, none⟩ v6) p q gp sh cid cl ca sc ids ∧
      ArenaS c' K (((((((w.setCell ⟨y, 0, none⟩ v0).setCell ⟨y, 1, none⟩ v1).setCell ⟨y, 2, none⟩ v2).setCell ⟨y, 3, none⟩ v3).setCell ⟨y, 4, none⟩ v4).setCell ⟨y, 5, none⟩ v5).setCell ⟨y, 6, none⟩ v6) q la := by
  have hy := h.by'.1
  have t := (((((((Stp.refl (· = 0) c w).setCell (p := ⟨y, 0, none⟩) v0 hy).setCell (p := ⟨y, 1, none⟩) v1 hy).setCell (p := ⟨y, 2, none⟩) v2 hy).setCell (p := ⟨y, 3, none⟩) v3 hy).setCell (p := ⟨y, 4, none⟩) v4 hy).setCell (p := ⟨y, 5, none⟩) v5 hy).setCell (p := ⟨y, 6, none⟩) v6 hy
  exact ⟨c, ((((((h.st.setNew v0 h.yo).setNew v1 h.yo).setNew v2 h.yo).setNew v3 h.yo).setNew v4 h.yo).setNew v5 h.yo).setNew v6 h.yo, h.sn.stp t (by have := h.kk; omega) (by omega), h.ar.stp t (by have := h.kk; omega)⟩
end
end
end Go.Proofs.YtiphdedfbafhkaaGreatDoor

namespace Go.Proofs.YtiphdedfbafhkaaGreatDoor
open Go.RowKit

theorem out_w {F G : World → Prop} {W : World} (h : G W) (g : ∀ W', G W' → F W') : F W := g W h

section
variable {c c' : Nat → Nat} {k K : Nat} {w w' : World} {p q gp sh cid : Nat} {cl ca sc : Int} {ids : List Int} {la : List Int}
set_option maxRecDepth 100000 in
set_option maxHeartbeats 2000000 in
theorem snstep_nil_ok (hi : Int) (h : SnAt c k w p q gp sh cid cl ca sc ids) (ha : ArenaS c K w q la) (hk : 2 ≤ k ∧ 2 ≤ K ∧ k ≠ K ∧ k + 1 ≠ K ∧ k + 2 ≠ K) (hc : cid < la.length) (hs : 0 ≤ sc ∧ sc < 4611686018427387904) (hil : (ids.length : Int) ≤ 1048576) (hids : ids.length = 0) (hh : -1 ≤ hi ∧ hi ≤ 4611686018427387904) (hsh : sh < 21) (hf : hi - 2 ^ sh ≤ (la.getD cid 0)) :
    Calls Tryz.prog 84 #[.agg #[.pointer (some ⟨p, 0, none⟩), .int .i64 hi, .slice none 0 0, .int .i64 0, .bool false, .bool false, .bool false]] w fun e w' => ∃ ao' cap', e = .returned (.tuple #[.agg #[.pointer (some ⟨p, 0, none⟩), .int .i64 hi, .slice ao' ids.length cap', .int .i64 (la.getD cid 0), .bool true, .bool true, .bool false], .nilIface]) ∧ ∃ c', Stp (fun j => j = k ∨ j = K) c c' w w' ∧ SnAt c' k w' p q gp sh cid hi (la.getD cid 0) (sc + 1) ids ∧ ArenaS c' K w' q la := by
  obtain ⟨mv, hmv⟩ : ∃ mv, mv = (la.getD cid 0) := ⟨_, rfl⟩
  rw [← hmv] at hf ⊢
  have HMV := Lib.hid hmv
  have tf : decide (mv < hi - 2 ^ sh) = false := by simpa using hf
  have hp2 := two_pow_bd sh hsh
  have hw1 : -9223372036854775808 ≤ hi - 2 ^ sh ∧ hi - 2 ^ sh ≤ 9223372036854775807 := by omega
  have WS : wrap64 (hi - 2 ^ sh) = hi - 2 ^ sh := IntWalk.wrap64_in _ hw1
  have V1 : IntKind.i64.wrap (hi - 2 ^ sh) = hi - 2 ^ sh := (IntWalk.i64_left _).trans WS
  clear hp2 hw1 hf
  have hw2 : -9223372036854775808 ≤ sc + 1 ∧ sc + 1 ≤ 9223372036854775807 := by clear WS V1; omega
  have WC : wrap64 (sc + 1) = sc + 1 := IntWalk.wrap64_in _ hw2
  clear hw2
  have Hsh := Lib.hid hsh
  have Hk := Lib.hid hk
  have Hc := Lib.hid hc
  have Hil := Lib.hid hil
  obtain ⟨N, hN⟩ : ∃ N, N = ids.length := ⟨_, rfl⟩
  have HN := Lib.hid hN
  have tN : ((N : Int) == 0) = true := by clear WS V1 WC; simp; omega
  rw [← hN]
  have R1 := Lib.hid (ST.start h ha hk (.pointer (some ⟨p, 0, none⟩)) (.int .i64 hi) (.slice none 0 0) (.int .i64 0) (.bool false) (.bool false) (.bool false))
  generalize hcc : paint (paint c w.heap.size 0) (w.heap.size + 1) 0 = c1 at R1
  clear hcc h ha hk hsh hh hc hs hil hids hN hmv
  obtain ⟨x, hx⟩ : ∃ x, x = w.heap.size := ⟨_, rfl⟩
  obtain ⟨y, hy⟩ : ∃ y, y = w.heap.size + 1 := ⟨_, rfl⟩
  go_enter Tryz.func84, Tryz.ntmps84
  go_wp2_with fail
  rw [← hy, ← hx] at R1
  rw [← hy, ← hx]
  clear hx hy
  refine (sndone_any c1 _ _ _ _ _ _ _ _ _ _).mono ?_
  rintro e w2 ⟨rfl, c2, t2⟩
  have R2 := Lib.hid (R1.out.stpF t2)
  clear t2 R1
  obtain ⟨⟨x0, x1', x2, x3, x4, x5, x6⟩, ⟨f0, f1, f2, f3, f4, f5, f6⟩, lx⟩ := R2.out.xs
  obtain ⟨⟨s0, s1, s2, s3, s4, s5, s6⟩, ⟨g3, g4, g6⟩, lp⟩ := R2.out.ss
  obtain ⟨-, -, ly, nxy, nxp, nyp⟩ := R2.out.ys
  have HLD := Lib.hid (fun (W : World) (hW : Stp (fun _ => False) c2 c2 w2 W) => R2.out.load_c rfl Hc.out hW)
  rw [← HMV.out] at HLD
  go_upto_region 4 with fail
  go_region_held3 (fun w' => w'.cell? ⟨x, 0, none⟩ = some (.pointer (some ⟨p, 0, none⟩)) ∧ w'.cell? ⟨p, 0, none⟩ = some (.pointer (some ⟨q, 0, none⟩)) ∧ w'.cell? ⟨p, 2, none⟩ = some (.int .i64 cid))
    (first | exact ⟨by assumption, by assumption, by assumption⟩ | go_keep)
    (first | (go_at_call 37; refine (HLD.out _ (by first | exact (Stp.refl _ _ _).drew | exact Stp.refl _ _ _)).mono ?_; rintro e w3 ⟨rfl, c3, R3, ⟨x0, s0, s2⟩⟩))
  clear HLD x1' x2 x3 x4 x5 x6 f0 f1 f2 f3 f4 f5 f6 lx s1 s3 s4 s5 s6 g3 g4 g6 lp ly nxy nxp nyp x0 s0 s2 R2
  obtain ⟨⟨x0, x1', x2, x3, x4, x5, x6⟩, ⟨f0, f1, f2, f3, f4, f5, f6⟩, lx⟩ := R3.out.xs
  obtain ⟨⟨s0, s1, s2, s3, s4, s5, s6⟩, ⟨g3, g4, g6⟩, lp⟩ := R3.out.ss
  obtain ⟨-, -, ly, nxy, nxp, nyp⟩ := R3.out.ys
  go_wp2_with fail
  have R4 := Lib.hid (R3.out.put_sc (sc + 1))
  clear R3
  clear x0 x1' x2 x3 x4 x5 x6 f0 f1 f2 f3 f4 f5 f6 lx s0 s1 s2 s3 s4 s5 s6 g3 g4 g6 lp ly nxy nxp nyp
  generalize World.setCell _ _ _ = w4 at R4 ⊢
  refine (R4.out.scan_c Hil.out mv).mono ?_
  rw [← HN.out]
  rintro e w5 ⟨ao', cap', rfl, c5, R5, hIn⟩
  have I5 := Lib.hid hIn
  clear hIn R4
  obtain ⟨⟨x0, x1', x2, x3, x4, x5, x6⟩, ⟨f0, f1, f2, f3, f4, f5, f6⟩, lx⟩ := R5.out.xs
  obtain ⟨⟨s0, s1, s2, s3, s4, s5, s6⟩, ⟨g3, g4, g6⟩, lp⟩ := R5.out.ss
  obtain ⟨-, -, ly, nxy, nxp, nyp⟩ := R5.out.ys
  obtain ⟨⟨h0, h1, h2, h3, h4, h5, h6⟩, -, -, -, -, -⟩ := R5.out.ys
  go_wp2_with fail
  have R6 := Lib.hid (((R5.out.put 2 (.slice ao' N cap')).put 3 (.int .i64 mv)).put 4 (.bool true))
  have T6 := Lib.hid (((Stp.refl (· = 0) c5 w5).setCell (p := ⟨x, 2, none⟩) (.slice ao' N cap') R5.out.bx.1).setCell (p := ⟨x, 3, none⟩) (.int .i64 mv) R5.out.bx.1 |>.setCell (p := ⟨x, 4, none⟩) (.bool true) R5.out.bx.1)
  have I6 := Lib.hid (I5.out.stp T6.out (by omega))
  clear R5 I5 T6 h0 h1 h2 h3 h4 h5 h6
  clear x0 x1' x2 x3 x4 x5 x6 f0 f1 f2 f3 f4 f5 f6 lx s0 s1 s2 s3 s4 s5 s6 g3 g4 g6 lp ly nxy nxp nyp
  generalize World.setCell _ _ _ = w6 at R6 I6 ⊢
  refine (scdone_s c5 _ _ _ _ _ tN).mono ?_
  rintro e w7 ⟨rfl, c7, t7⟩
  have R7 := Lib.hid (R6.out.stpF t7)
  have I7 := Lib.hid (I6.out.stp t7 id)
  clear t7 R6 I6
  obtain ⟨⟨x0, x1', x2, x3, x4, x5, x6⟩, ⟨f0, f1, f2, f3, f4, f5, f6⟩, lx⟩ := R7.out.xs
  obtain ⟨⟨s0, s1, s2, s3, s4, s5, s6⟩, ⟨g3, g4, g6⟩, lp⟩ := R7.out.ss
  obtain ⟨-, -, ly, nxy, nxp, nyp⟩ := R7.out.ys
  go_wp2_with fail
  refine (scleast_s c7 _ _ _ _ _).mono ?_
  rintro e w8 ⟨rfl, c8, t8⟩
  have R8 := Lib.hid (R7.out.stpF t8)
  clear t8 R7 I7
  clear x0 x1' x2 x3 x4 x5 x6 f0 f1 f2 f3 f4 f5 f6 lx s0 s1 s2 s3 s4 s5 s6 g3 g4 g6 lp ly nxy nxp nyp
  obtain ⟨⟨x0, x1', x2, x3, x4, x5, x6⟩, ⟨f0, f1, f2, f3, f4, f5, f6⟩, lx⟩ := R8.out.xs
  obtain ⟨⟨s0, s1, s2, s3, s4, s5, s6⟩, ⟨g3, g4, g6⟩, lp⟩ := R8.out.ss
  obtain ⟨-, -, ly, nxy, nxp, nyp⟩ := R8.out.ys
  have npx := Ne.symm nxp
  go_upto_region 15 with fail
  go_region_held3 (fun w' => w'.cell? ⟨x, 0, none⟩ = some (.pointer (some ⟨p, 0, none⟩)) ∧ w'.cell? ⟨x, 1, none⟩ = some (.int .i64 hi) ∧ w'.cell? ⟨p, 1, none⟩ = some (.int .i64 sh))
    (first | exact ⟨by assumption, by assumption, by assumption⟩ | (refine ⟨?_, ?_, ?_⟩ <;> (repeat (first | assumption | refine (World.cell?_setCell_other _ _ _ _ (by simp)).trans ?_))) | go_keep)
    (first | (go_at_call 30; refine Calls.mono (by first | exact R8.out.slots_c Hsh.out rfl (by first | exact (Stp.refl _ _ _).drew | exact Stp.refl _ _ _) | exact (R8.out.put_ca mv).slots_c Hsh.out rfl (by first | exact (Stp.refl _ _ _).drew | exact Stp.refl _ _ _) | exact (R8.out.put 5 (.bool true)).slots_c Hsh.out rfl (by first | exact (Stp.refl _ _ _).drew | exact Stp.refl _ _ _) | exact ((R8.out.put_ca mv).put 5 (.bool true)).slots_c Hsh.out rfl (by first | exact (Stp.refl _ _ _).drew | exact Stp.refl _ _ _) | exact ((R8.out.put 5 (.bool true)).put_ca mv).slots_c Hsh.out rfl (by first | exact (Stp.refl _ _ _).drew | exact Stp.refl _ _ _)) ?_; rintro e w9 ⟨rfl, c9, R9, ⟨x0, x1', s1⟩, ⟨g4, f5, f6⟩, ⟨s4, x5, x6⟩⟩))
  all_goals
    refine out_w (F := Exit.then _ _ Exit.normal _) (G := fun W => Hid (ST c w k K p q gp sh cid cl mv (sc + 1) ids la x y [.pointer (some ⟨p, 0, none⟩), .int .i64 hi, .slice ao' N cap', .int .i64 mv, .bool true, .bool true, .bool false] c9 W)) ?_ ?_
    · first | exact Lib.hid (((R9.out.put_ca mv).put 5 (.bool true)).put 6 (.bool false)) | exact Lib.hid (((R9.out.put_ca mv).put 6 (.bool false)).put 5 (.bool true)) | exact Lib.hid (((R9.out.put 5 (.bool true)).put_ca mv).put 6 (.bool false)) | exact Lib.hid (((R9.out.put 5 (.bool true)).put 6 (.bool false)).put_ca mv) | exact Lib.hid (((R9.out.put 6 (.bool false)).put_ca mv).put 5 (.bool true)) | exact Lib.hid (((R9.out.put 6 (.bool false)).put 5 (.bool true)).put_ca mv) | exact Lib.hid ((R9.out.put_ca mv).put 6 (.bool false)) | exact Lib.hid ((R9.out.put 6 (.bool false)).put_ca mv) | exact Lib.hid ((R9.out.put 5 (.bool true)).put 6 (.bool false)) | exact Lib.hid ((R9.out.put 6 (.bool false)).put 5 (.bool true)) | exact Lib.hid (R9.out.put 6 (.bool false))
    clear R8 R9 npx ly nxy nxp nyp x0 x1' s1 g4 f5 f6 s4 x5 x6
    clear x2 x3 x4 f0 f1 f2 f3 f4 lx s0 s2 s3 s5 s6 g3 g6 lp
    intro w10 R10
    obtain ⟨⟨x0, x1', x2, x3, x4, x5, x6⟩, ⟨f0, f1, f2, f3, f4, f5, f6⟩, lx⟩ := R10.out.xs
    obtain ⟨⟨s0, s1, s2, s3, s4, s5, s6⟩, ⟨g3, g4, g6⟩, lp⟩ := R10.out.ss
    obtain ⟨-, -, ly, nxy, nxp, nyp⟩ := R10.out.ys
    obtain ⟨⟨h0, h1, h2, h3, h4, h5, h6⟩, ⟨k0, k1, k2, k3, k4, k5, k6⟩, -, -, -, -⟩ := R10.out.ys
    have npx := Ne.symm nxp
    have npy := Ne.symm nyp
    have nyx := Ne.symm nxy
    go_wp2
    obtain ⟨c9', Z1, Z2, Z3⟩ := (R10.out.put_cl hi).res (.pointer (some ⟨p, 0, none⟩)) (.int .i64 hi) (.slice ao' N cap') (.int .i64 mv) (.bool true) (.bool true) (.bool false)
    exact bodyPost_ret (v := .tuple #[.agg #[.pointer (some ⟨p, 0, none⟩), .int .i64 hi, .slice ao' N cap', .int .i64 mv, .bool true, .bool true, .bool false], .nilIface]) (by clear Z1 Z2 Z3 R10; simp [results, Tryz.results84, go_sem, *]) rfl ⟨ao', cap', rfl, c9', Z1, Z2, Z3⟩
end
end Go.Proofs.YtiphdedfbafhkaaGreatDoor
