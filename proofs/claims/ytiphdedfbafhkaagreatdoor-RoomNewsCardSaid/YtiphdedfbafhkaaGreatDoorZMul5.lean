/- Contracts that the closing theorem wants (Mul5). No condition beyond each law's own. -/
import Derived.Test.YtiphdedfbafhkaaGreatDoorZMul4
import Derived.Deep.QuietTactic
namespace Go.Proofs.YtiphdedfbafhkaaGreatDoor
open Go.RowKit

section
variable {c : Nat → Nat} {K : Nat} {w : World} {p q bp gp : Nat} {S : Sq} {la : List Int} {ids : List Int}
variable (n claimed hi : Int) {ao : Option Addr} {m cap : Nat} (most : Int)
/-- A region whose operations keep a class of worlds, walked once, in the order of the text. -/
theorem region_quiet_class {P : Program} {C : World → Prop} {id : Nat} {Q : Exit → Act → World → Prop} {a : Act} {w : World} {l : List Oper} (hm : P.follows .mixedOrders = true) (hB : Region.lexB .any l.toArray = true) (hC : C w.drew)
    (h : wpQuiet P l.toArray C (fun a' => ∀ w', C w' → Q .normal a' w') l a) : (Code.region id l.toArray true).wp P Q a w :=
  wp_region_quiet (C := C) hm hB hC (by simpa using h)
theorem TRel.cls {c0 : Nat → Nat} {w0 : World} {x y : Nat} {cs : List Value} (h : TRel c0 w0 K p q bp gp S la x y cs ao m cap ids c w) : ∃ (T : Type) (f : T → World), Nonempty T ∧ (∀ t, ∃ c', TRel c0 w0 K p q bp gp S la x y cs ao m cap ids c' (f t)) ∧ (∀ (w' : World) (c' : Nat → Nat), TRel c0 w0 K p q bp gp S la x y cs ao m cap ids c' w' → ∃ t, w' = f t) :=
  ⟨{v : World // ∃ c', TRel c0 w0 K p q bp gp S la x y cs ao m cap ids c' v}, Subtype.val, ⟨⟨_, _, h⟩⟩, fun t => t.2, fun w' c' h => ⟨⟨w', c', h⟩, rfl⟩⟩

set_option maxRecDepth 100000 in
set_option maxHeartbeats 4000000 in
theorem ts_scan (ha : ArenaS c K w q la) (hB : SeqIs c (K + 1) w p q bp gp S) (hs : In c (K + 4) w 1 ao m cap ((ids).map (Value.int .i64))) {v : Int} (hcu : S.cac < la.length) (hv : la.getD S.cac 0 = v) (hno : ¬ (hi - 2 ^ S.sh ≤ v ∧ v ≤ claimed)) (hw : wrap64 (hi - 2 ^ S.sh) = hi - 2 ^ S.sh) {N : Nat} (hN0 : N = S.ids.length) (hNl : (N : Int) ≤ 1048576) (hN : 0 < N) :
    Calls Tryz.prog 83 #[.agg #[.pointer (some ⟨p, 0, none⟩), .int .i64 n, .int .i64 1, .int .i64 claimed, .int .i64 hi, .slice ao m cap, .int .i64 most]] w fun e w' => ∃ ao' cap', e = .returned (.tuple #[.agg #[.pointer (some ⟨p, 0, none⟩), .int .i64 n, .int .i64 2, .int .i64 claimed, .int .i64 hi, .slice ao' N cap', .int .i64 claimed], .nilIface]) ∧ ∃ c', Stp (· = K) c c' w w' ∧ ArenaS c' K w' q la ∧ In c' (K + 4) w' 1 ao' N cap' ((S.ids).map (Value.int .i64)) := by
  obtain ⟨c1, r1⟩ := TRel.start ha hB hs [.pointer (some ⟨p, 0, none⟩), .int .i64 n, .int .i64 1, .int .i64 claimed, .int .i64 hi, .slice ao m cap, .int .i64 most]
  have R1 := Lib.hid r1
  obtain ⟨x, hx⟩ : ∃ x, x = w.heap.size := ⟨_, rfl⟩
  obtain ⟨y, hy⟩ : ∃ y, y = w.heap.size + 1 := ⟨_, rfl⟩
  have Hcu := Lib.hid hcu
  have Hv := Lib.hid hv
  have HN0 := Lib.hid hN0
  have HNl := Lib.hid (show (S.ids.length : Int) ≤ 1048576 by rw [← hN0]; exact hNl)
  have Hw := Lib.hid hw
  have hN2 : ((N : Int) == 0) = false := by simp; omega
  clear hN
  have hw2 : IntKind.i64.wrap (hi - 2 ^ S.sh) = hi - 2 ^ S.sh := (IntWalk.i64_left _).trans hw
  have tt : decide (hi - 2 ^ S.sh ≤ v) = false ∨ (decide (hi - 2 ^ S.sh ≤ v) = true ∧ decide (v ≤ claimed) = false) := by
    by_cases h : hi - 2 ^ S.sh ≤ v
    · exact .inr ⟨by simpa using h, by simp; exact Int.not_le.1 (fun h2 => hno ⟨h, h2⟩)⟩
    · exact .inl (by simpa using h)
  clear r1 hB ha hs hcu hv hno hN0 hNl
  go_enter Tryz.func83, Tryz.ntmps83
  go_wp2_with fail
  rw [← hy, ← hx] at R1
  rw [← hy, ← hx]
  clear hx hy
  refine (tdone_any _ _ _ _ _ _ _ _ c1 _ _ (b := false) (by decide)).mono ?_
  rintro e w2 ⟨rfl, c2, t2⟩
  have R2 := Lib.hid (R1.out.stpF t2)
  clear t2 R1
  obtain ⟨x0, x1, x2, x3, x4, x5, x6, lx⟩ := R2.out.xs rfl
  obtain ⟨s0, s1, s2, s3, s4, s5, lp⟩ := R2.out.ss
  go_wp2_with fail
  refine (load_s R2.out.ar S.cac Hcu.out).mono ?_
  rintro e w3 ⟨rfl, c3, t3, a3⟩
  rw [Hv.out]
  have R3 := Lib.hid (R2.out.are t3 a3)
  clear t3 a3 x0 x1 x2 x3 x4 x5 x6 lx s0 s1 s2 s3 s4 s5 lp R2
  obtain ⟨x0, x1, x2, x3, x4, x5, x6, lx⟩ := R3.out.xs rfl
  obtain ⟨s0, s1, s2, s3, s4, s5, lp⟩ := R3.out.ss
  rcases tt with ta | ⟨ta, tb⟩
  all_goals
    go_upto_region 23 with fail
    obtain ⟨T, f, hne, hT, hS⟩ := R3.out.cls
    have HT := Lib.hid hT
    have HS := Lib.hid hS
    clear hT hS
    refine region_quiet_class (C := fun w' => ∃ t : T, w' = f t) (by kernel_rfl) (by kernel_rfl) (HS.out _ _ R3.out.drew) ?_
    have qx0 : ∀ t : T, (f t).cell? ⟨x, 0, none⟩ = some (.pointer (some ⟨p, 0, none⟩)) := fun t => by obtain ⟨_, h⟩ := HT.out t; exact (h.xs rfl).1
    have qx1 : ∀ t : T, (f t).cell? ⟨x, 1, none⟩ = some (.int .i64 n) := fun t => by obtain ⟨_, h⟩ := HT.out t; exact (h.xs rfl).2.1
    have qx2 : ∀ t : T, (f t).cell? ⟨x, 2, none⟩ = some (.int .i64 1) := fun t => by obtain ⟨_, h⟩ := HT.out t; exact (h.xs rfl).2.2.1
    have qx3 : ∀ t : T, (f t).cell? ⟨x, 3, none⟩ = some (.int .i64 claimed) := fun t => by obtain ⟨_, h⟩ := HT.out t; exact (h.xs rfl).2.2.2.1
    have qx4 : ∀ t : T, (f t).cell? ⟨x, 4, none⟩ = some (.int .i64 hi) := fun t => by obtain ⟨_, h⟩ := HT.out t; exact (h.xs rfl).2.2.2.2.1
    have qs0 : ∀ t : T, (f t).cell? ⟨p, 0, none⟩ = some (.pointer (some ⟨q, 0, none⟩)) := fun t => by obtain ⟨_, h⟩ := HT.out t; exact h.ss.1
    have qs1 : ∀ t : T, (f t).cell? ⟨p, 1, none⟩ = some (.int .i64 S.sh) := fun t => by obtain ⟨_, h⟩ := HT.out t; exact h.ss.2.1
    clear x0 x1 x2 x3 x4 x5 x6 lx s0 s1 s2 s3 s4 s5 lp
    repeat (quiet_step ((go_at_call 30; obtain ⟨cn, rn⟩ := HT.out ‹T›; refine (slots_k S.sh rn.sq.bf.1 _).mono ?_; rintro e w' ⟨rfl, rfl⟩; exact ⟨rfl, HS.out _ _ (rn.stpF ((Stp.refl (fun _ => False) cn _).alloc (.cells #[.int .i64 S.sh] 65) 0))⟩)))
    refine wpQuiet_nil ?_
    intro _ hw'
    obtain ⟨tt, hw''⟩ := hw'
    subst hw''
    obtain ⟨w4, hw4⟩ : ∃ w4, w4 = f tt := ⟨_, rfl⟩
    obtain ⟨c4, r4⟩ := HT.out tt
    rw [← hw4] at r4 ⊢
    have R4 := Lib.hid r4
    clear r4 hw4 qx0 qx1 qx2 qx3 qx4 qs0 qs1
    obtain ⟨x0, x1, x2, x3, x4, x5, x6, lx⟩ := R4.out.xs rfl
    obtain ⟨s0, s1, s2, s3, s4, s5, lp⟩ := R4.out.ss
    go_upto_region 26 with fail
    go_region_with (first
      | (go_at_call 118; refine (TRel.gscan_c (by first | exact R4.out | exact R4.out.drew | exact R4.out.stpF ((Stp.refl (fun _ => False) _ _).drewN _)) (by rfl) claimed (N := N) (by exact HN0.out) (by exact HNl.out)).mono ?_; rintro e w5 ⟨ao', cap', rfl, c5, R5, ⟨x0, x1, x2, x3, x4, x5, x6, lx⟩, ⟨s0, s1, s2, s3, s4, s5, lp⟩⟩; obtain ⟨f0, f1, f2, f3, f4, f5, f6⟩ := R5.out.fx))
    all_goals
      have R6 := Lib.hid (((R5.out.put 5 (.slice ao' N cap')).put 6 (.int .i64 claimed)).put 2 (.int .i64 2))
      clear x0 x1 x2 x3 x4 x5 x6 lx s0 s1 s2 s3 s4 s5 lp f0 f1 f2 f3 f4 f5 f6 R5
      generalize World.setCell _ _ _ = W6 at R6 ⊢
      obtain ⟨x0, x1, x2, x3, x4, x5, x6, lx⟩ := R6.out.xs rfl
      obtain ⟨s0, s1, s2, s3, s4, s5, lp⟩ := R6.out.ss
      go_wp2_with fail
      refine (scdone_s c5 _ _ _ _ _ hN2).mono ?_
      rintro e w6 ⟨rfl, c6, t6⟩
      have R7 := Lib.hid (R6.out.stpF t6)
      clear t6 R6 x0 x1 x2 x3 x4 x5 x6 lx s0 s1 s2 s3 s4 s5 lp
      obtain ⟨x0, x1, x2, x3, x4, x5, x6, lx⟩ := R7.out.xs rfl
      obtain ⟨s0, s1, s2, s3, s4, s5, lp⟩ := R7.out.ss
      obtain ⟨y0, y1, y2, y3, y4, y5, y6, ly, nxy⟩ := R7.out.ys
      obtain ⟨g0, g1, g2, g3, g4, g5, g6⟩ := R7.out.fy
      go_wp2
      exact bodyPost_ret (v := .tuple #[.agg #[.pointer (some ⟨p, 0, none⟩), .int .i64 n, .int .i64 2, .int .i64 claimed, .int .i64 hi, .slice ao' N cap', .int .i64 claimed], .nilIface]) (by simp [results, Tryz.results83, go_sem, y0, y1, y2, y3, y4, y5, y6]) rfl ⟨_, _, rfl, R7.out.res _ _ _ _ _ _ _⟩

set_option maxRecDepth 100000 in
set_option maxHeartbeats 4000000 in
theorem ts_scan_full (ha : ArenaS c K w q la) (hB : SeqIs c (K + 1) w p q bp gp S) (hs : In c (K + 4) w 1 ao m cap ((ids).map (Value.int .i64))) {v : Int} (hcu : S.cac < la.length) (hv : la.getD S.cac 0 = v) (hno : ¬ (hi - 2 ^ S.sh ≤ v ∧ v ≤ claimed)) (hw : wrap64 (hi - 2 ^ S.sh) = hi - 2 ^ S.sh) {N : Nat} (hN0 : N = S.ids.length) (hNl : (N : Int) ≤ 1048576) (hN : N = 0) (h1 : claimed < hi - 2 ^ S.sh) :
    Calls Tryz.prog 83 #[.agg #[.pointer (some ⟨p, 0, none⟩), .int .i64 n, .int .i64 1, .int .i64 claimed, .int .i64 hi, .slice ao m cap, .int .i64 most]] w fun e w' => ∃ ao' cap', e = .returned (.tuple #[.agg #[.pointer (some ⟨p, 0, none⟩), .int .i64 n, .int .i64 6, .int .i64 claimed, .int .i64 hi, .slice ao' N cap', .int .i64 claimed], .nilIface]) ∧ ∃ c', Stp (· = K) c c' w w' ∧ ArenaS c' K w' q la ∧ In c' (K + 4) w' 1 ao' N cap' ((S.ids).map (Value.int .i64)) := by
  obtain ⟨c1, r1⟩ := TRel.start ha hB hs [.pointer (some ⟨p, 0, none⟩), .int .i64 n, .int .i64 1, .int .i64 claimed, .int .i64 hi, .slice ao m cap, .int .i64 most]
  have R1 := Lib.hid r1
  obtain ⟨x, hx⟩ : ∃ x, x = w.heap.size := ⟨_, rfl⟩
  obtain ⟨y, hy⟩ : ∃ y, y = w.heap.size + 1 := ⟨_, rfl⟩
  have Hcu := Lib.hid hcu
  have Hv := Lib.hid hv
  have HN0 := Lib.hid hN0
  have HNl := Lib.hid (show (S.ids.length : Int) ≤ 1048576 by rw [← hN0]; exact hNl)
  have Hw := Lib.hid hw
  have hN2 : ((N : Int) == 0) = true := by rw [hN]; rfl
  have H1 := Lib.hid h1
  clear hN h1
  have hw2 : IntKind.i64.wrap (hi - 2 ^ S.sh) = hi - 2 ^ S.sh := (IntWalk.i64_left _).trans hw
  have tt : decide (hi - 2 ^ S.sh ≤ v) = false ∨ (decide (hi - 2 ^ S.sh ≤ v) = true ∧ decide (v ≤ claimed) = false) := by
    by_cases h : hi - 2 ^ S.sh ≤ v
    · exact .inr ⟨by simpa using h, by simp; exact Int.not_le.1 (fun h2 => hno ⟨h, h2⟩)⟩
    · exact .inl (by simpa using h)
  clear r1 hB ha hs hcu hv hno hN0 hNl
  go_enter Tryz.func83, Tryz.ntmps83
  go_wp2_with fail
  rw [← hy, ← hx] at R1
  rw [← hy, ← hx]
  clear hx hy
  refine (tdone_any _ _ _ _ _ _ _ _ c1 _ _ (b := false) (by decide)).mono ?_
  rintro e w2 ⟨rfl, c2, t2⟩
  have R2 := Lib.hid (R1.out.stpF t2)
  clear t2 R1
  obtain ⟨x0, x1, x2, x3, x4, x5, x6, lx⟩ := R2.out.xs rfl
  obtain ⟨s0, s1, s2, s3, s4, s5, lp⟩ := R2.out.ss
  go_wp2_with fail
  refine (load_s R2.out.ar S.cac Hcu.out).mono ?_
  rintro e w3 ⟨rfl, c3, t3, a3⟩
  rw [Hv.out]
  have R3 := Lib.hid (R2.out.are t3 a3)
  clear t3 a3 x0 x1 x2 x3 x4 x5 x6 lx s0 s1 s2 s3 s4 s5 lp R2
  obtain ⟨x0, x1, x2, x3, x4, x5, x6, lx⟩ := R3.out.xs rfl
  obtain ⟨s0, s1, s2, s3, s4, s5, lp⟩ := R3.out.ss
  rcases tt with ta | ⟨ta, tb⟩
  all_goals
    go_upto_region 23 with fail
    obtain ⟨T, f, hne, hT, hS⟩ := R3.out.cls
    have HT := Lib.hid hT
    have HS := Lib.hid hS
    clear hT hS
    refine region_quiet_class (C := fun w' => ∃ t : T, w' = f t) (by kernel_rfl) (by kernel_rfl) (HS.out _ _ R3.out.drew) ?_
    have qx0 : ∀ t : T, (f t).cell? ⟨x, 0, none⟩ = some (.pointer (some ⟨p, 0, none⟩)) := fun t => by obtain ⟨_, h⟩ := HT.out t; exact (h.xs rfl).1
    have qx1 : ∀ t : T, (f t).cell? ⟨x, 1, none⟩ = some (.int .i64 n) := fun t => by obtain ⟨_, h⟩ := HT.out t; exact (h.xs rfl).2.1
    have qx2 : ∀ t : T, (f t).cell? ⟨x, 2, none⟩ = some (.int .i64 1) := fun t => by obtain ⟨_, h⟩ := HT.out t; exact (h.xs rfl).2.2.1
    have qx3 : ∀ t : T, (f t).cell? ⟨x, 3, none⟩ = some (.int .i64 claimed) := fun t => by obtain ⟨_, h⟩ := HT.out t; exact (h.xs rfl).2.2.2.1
    have qx4 : ∀ t : T, (f t).cell? ⟨x, 4, none⟩ = some (.int .i64 hi) := fun t => by obtain ⟨_, h⟩ := HT.out t; exact (h.xs rfl).2.2.2.2.1
    have qs0 : ∀ t : T, (f t).cell? ⟨p, 0, none⟩ = some (.pointer (some ⟨q, 0, none⟩)) := fun t => by obtain ⟨_, h⟩ := HT.out t; exact h.ss.1
    have qs1 : ∀ t : T, (f t).cell? ⟨p, 1, none⟩ = some (.int .i64 S.sh) := fun t => by obtain ⟨_, h⟩ := HT.out t; exact h.ss.2.1
    clear x0 x1 x2 x3 x4 x5 x6 lx s0 s1 s2 s3 s4 s5 lp
    repeat (quiet_step ((go_at_call 30; obtain ⟨cn, rn⟩ := HT.out ‹T›; refine (slots_k S.sh rn.sq.bf.1 _).mono ?_; rintro e w' ⟨rfl, rfl⟩; exact ⟨rfl, HS.out _ _ (rn.stpF ((Stp.refl (fun _ => False) cn _).alloc (.cells #[.int .i64 S.sh] 65) 0))⟩)))
    refine wpQuiet_nil ?_
    intro _ hw'
    obtain ⟨tt, hw''⟩ := hw'
    subst hw''
    obtain ⟨w4, hw4⟩ : ∃ w4, w4 = f tt := ⟨_, rfl⟩
    obtain ⟨c4, r4⟩ := HT.out tt
    rw [← hw4] at r4 ⊢
    have R4 := Lib.hid r4
    clear r4 hw4 qx0 qx1 qx2 qx3 qx4 qs0 qs1
    obtain ⟨x0, x1, x2, x3, x4, x5, x6, lx⟩ := R4.out.xs rfl
    obtain ⟨s0, s1, s2, s3, s4, s5, lp⟩ := R4.out.ss
    go_upto_region 26 with fail
    go_region_with (first
      | (go_at_call 118; refine (TRel.gscan_c (by first | exact R4.out | exact R4.out.drew | exact R4.out.stpF ((Stp.refl (fun _ => False) _ _).drewN _)) (by rfl) claimed (N := N) (by exact HN0.out) (by exact HNl.out)).mono ?_; rintro e w5 ⟨ao', cap', rfl, c5, R5, ⟨x0, x1, x2, x3, x4, x5, x6, lx⟩, ⟨s0, s1, s2, s3, s4, s5, lp⟩⟩; obtain ⟨f0, f1, f2, f3, f4, f5, f6⟩ := R5.out.fx))
    all_goals
      have R6 := Lib.hid (((R5.out.put 5 (.slice ao' N cap')).put 6 (.int .i64 claimed)).put 2 (.int .i64 2))
      clear x0 x1 x2 x3 x4 x5 x6 lx s0 s1 s2 s3 s4 s5 lp f0 f1 f2 f3 f4 f5 f6 R5
      generalize World.setCell _ _ _ = W6 at R6 ⊢
      obtain ⟨x0, x1, x2, x3, x4, x5, x6, lx⟩ := R6.out.xs rfl
      obtain ⟨s0, s1, s2, s3, s4, s5, lp⟩ := R6.out.ss
      go_wp2_with fail
      refine (scdone_s c5 _ _ _ _ _ hN2).mono ?_
      rintro e w6 ⟨rfl, c6, t6⟩
      have R7 := Lib.hid (R6.out.stpF t6)
      clear t6 R6 x0 x1 x2 x3 x4 x5 x6 lx s0 s1 s2 s3 s4 s5 lp
      obtain ⟨x0, x1, x2, x3, x4, x5, x6, lx⟩ := R7.out.xs rfl
      obtain ⟨s0, s1, s2, s3, s4, s5, lp⟩ := R7.out.ss
      go_wp2_with fail
      refine (tj_full n claimed hi claimed 2 R7.out.ar R7.out.sq R7.out.sc (by first | exact H1.out | exact Int.not_lt.2 H1.out) Hw.out).mono ?_
      rintro e w8 ⟨rfl, c8, t8, a8, i8⟩
      have R8 := Lib.hid ((R7.out.are t8 a8).scan i8)
      clear t8 a8 i8 R7 x0 x1 x2 x3 x4 x5 x6 lx s0 s1 s2 s3 s4 s5 lp
      obtain ⟨y0, y1, y2, y3, y4, y5, y6, ly, nxy⟩ := R8.out.ys
      obtain ⟨g0, g1, g2, g3, g4, g5, g6⟩ := R8.out.fy
      go_wp2
      exact bodyPost_ret (v := .tuple #[.agg #[.pointer (some ⟨p, 0, none⟩), .int .i64 n, .int .i64 6, .int .i64 claimed, .int .i64 hi, .slice ao' N cap', .int .i64 claimed], .nilIface]) (by simp [results, Tryz.results83, go_sem, y0, y1, y2, y3, y4, y5, y6]) rfl ⟨_, _, rfl, R8.out.res _ _ _ _ _ _ _⟩

set_option maxRecDepth 100000 in
set_option maxHeartbeats 4000000 in
theorem ts_scan_keep (ha : ArenaS c K w q la) (hB : SeqIs c (K + 1) w p q bp gp S) (hs : In c (K + 4) w 1 ao m cap ((ids).map (Value.int .i64))) {v : Int} (hcu : S.cac < la.length) (hv : la.getD S.cac 0 = v) (hno : ¬ (hi - 2 ^ S.sh ≤ v ∧ v ≤ claimed)) (hw : wrap64 (hi - 2 ^ S.sh) = hi - 2 ^ S.sh) {N : Nat} (hN0 : N = S.ids.length) (hNl : (N : Int) ≤ 1048576) (hN : N = 0) (h1 : ¬ claimed < hi - 2 ^ S.sh) :
    Calls Tryz.prog 83 #[.agg #[.pointer (some ⟨p, 0, none⟩), .int .i64 n, .int .i64 1, .int .i64 claimed, .int .i64 hi, .slice ao m cap, .int .i64 most]] w fun e w' => ∃ ao' cap', e = .returned (.tuple #[.agg #[.pointer (some ⟨p, 0, none⟩), .int .i64 n, .int .i64 3, .int .i64 claimed, .int .i64 hi, .slice ao' N cap', .int .i64 claimed], .nilIface]) ∧ ∃ c', Stp (· = K) c c' w w' ∧ ArenaS c' K w' q la ∧ In c' (K + 4) w' 1 ao' N cap' ((S.ids).map (Value.int .i64)) := by
  obtain ⟨c1, r1⟩ := TRel.start ha hB hs [.pointer (some ⟨p, 0, none⟩), .int .i64 n, .int .i64 1, .int .i64 claimed, .int .i64 hi, .slice ao m cap, .int .i64 most]
  have R1 := Lib.hid r1
  obtain ⟨x, hx⟩ : ∃ x, x = w.heap.size := ⟨_, rfl⟩
  obtain ⟨y, hy⟩ : ∃ y, y = w.heap.size + 1 := ⟨_, rfl⟩
  have Hcu := Lib.hid hcu
  have Hv := Lib.hid hv
  have HN0 := Lib.hid hN0
  have HNl := Lib.hid (show (S.ids.length : Int) ≤ 1048576 by rw [← hN0]; exact hNl)
  have Hw := Lib.hid hw
  have hN2 : ((N : Int) == 0) = true := by rw [hN]; rfl
  have H1 := Lib.hid h1
  clear hN h1
  have hw2 : IntKind.i64.wrap (hi - 2 ^ S.sh) = hi - 2 ^ S.sh := (IntWalk.i64_left _).trans hw
  have tt : decide (hi - 2 ^ S.sh ≤ v) = false ∨ (decide (hi - 2 ^ S.sh ≤ v) = true ∧ decide (v ≤ claimed) = false) := by
    by_cases h : hi - 2 ^ S.sh ≤ v
    · exact .inr ⟨by simpa using h, by simp; exact Int.not_le.1 (fun h2 => hno ⟨h, h2⟩)⟩
    · exact .inl (by simpa using h)
  clear r1 hB ha hs hcu hv hno hN0 hNl
  go_enter Tryz.func83, Tryz.ntmps83
  go_wp2_with fail
  rw [← hy, ← hx] at R1
  rw [← hy, ← hx]
  clear hx hy
  refine (tdone_any _ _ _ _ _ _ _ _ c1 _ _ (b := false) (by decide)).mono ?_
  rintro e w2 ⟨rfl, c2, t2⟩
  have R2 := Lib.hid (R1.out.stpF t2)
  clear t2 R1
  obtain ⟨x0, x1, x2, x3, x4, x5, x6, lx⟩ := R2.out.xs rfl
  obtain ⟨s0, s1, s2, s3, s4, s5, lp⟩ := R2.out.ss
  go_wp2_with fail
  refine (load_s R2.out.ar S.cac Hcu.out).mono ?_
  rintro e w3 ⟨rfl, c3, t3, a3⟩
  rw [Hv.out]
  have R3 := Lib.hid (R2.out.are t3 a3)
  clear t3 a3 x0 x1 x2 x3 x4 x5 x6 lx s0 s1 s2 s3 s4 s5 lp R2
  obtain ⟨x0, x1, x2, x3, x4, x5, x6, lx⟩ := R3.out.xs rfl
  obtain ⟨s0, s1, s2, s3, s4, s5, lp⟩ := R3.out.ss
  rcases tt with ta | ⟨ta, tb⟩
  all_goals
    go_upto_region 23 with fail
    obtain ⟨T, f, hne, hT, hS⟩ := R3.out.cls
    have HT := Lib.hid hT
    have HS := Lib.hid hS
    clear hT hS
    refine region_quiet_class (C := fun w' => ∃ t : T, w' = f t) (by kernel_rfl) (by kernel_rfl) (HS.out _ _ R3.out.drew) ?_
    have qx0 : ∀ t : T, (f t).cell? ⟨x, 0, none⟩ = some (.pointer (some ⟨p, 0, none⟩)) := fun t => by obtain ⟨_, h⟩ := HT.out t; exact (h.xs rfl).1
    have qx1 : ∀ t : T, (f t).cell? ⟨x, 1, none⟩ = some (.int .i64 n) := fun t => by obtain ⟨_, h⟩ := HT.out t; exact (h.xs rfl).2.1
    have qx2 : ∀ t : T, (f t).cell? ⟨x, 2, none⟩ = some (.int .i64 1) := fun t => by obtain ⟨_, h⟩ := HT.out t; exact (h.xs rfl).2.2.1
    have qx3 : ∀ t : T, (f t).cell? ⟨x, 3, none⟩ = some (.int .i64 claimed) := fun t => by obtain ⟨_, h⟩ := HT.out t; exact (h.xs rfl).2.2.2.1
    have qx4 : ∀ t : T, (f t).cell? ⟨x, 4, none⟩ = some (.int .i64 hi) := fun t => by obtain ⟨_, h⟩ := HT.out t; exact (h.xs rfl).2.2.2.2.1
    have qs0 : ∀ t : T, (f t).cell? ⟨p, 0, none⟩ = some (.pointer (some ⟨q, 0, none⟩)) := fun t => by obtain ⟨_, h⟩ := HT.out t; exact h.ss.1
    have qs1 : ∀ t : T, (f t).cell? ⟨p, 1, none⟩ = some (.int .i64 S.sh) := fun t => by obtain ⟨_, h⟩ := HT.out t; exact h.ss.2.1
    clear x0 x1 x2 x3 x4 x5 x6 lx s0 s1 s2 s3 s4 s5 lp
    repeat (quiet_step ((go_at_call 30; obtain ⟨cn, rn⟩ := HT.out ‹T›; refine (slots_k S.sh rn.sq.bf.1 _).mono ?_; rintro e w' ⟨rfl, rfl⟩; exact ⟨rfl, HS.out _ _ (rn.stpF ((Stp.refl (fun _ => False) cn _).alloc (.cells #[.int .i64 S.sh] 65) 0))⟩)))
    refine wpQuiet_nil ?_
    intro _ hw'
    obtain ⟨tt, hw''⟩ := hw'
    subst hw''
    obtain ⟨w4, hw4⟩ : ∃ w4, w4 = f tt := ⟨_, rfl⟩
    obtain ⟨c4, r4⟩ := HT.out tt
    rw [← hw4] at r4 ⊢
    have R4 := Lib.hid r4
    clear r4 hw4 qx0 qx1 qx2 qx3 qx4 qs0 qs1
    obtain ⟨x0, x1, x2, x3, x4, x5, x6, lx⟩ := R4.out.xs rfl
    obtain ⟨s0, s1, s2, s3, s4, s5, lp⟩ := R4.out.ss
    go_upto_region 26 with fail
    go_region_with (first
      | (go_at_call 118; refine (TRel.gscan_c (by first | exact R4.out | exact R4.out.drew | exact R4.out.stpF ((Stp.refl (fun _ => False) _ _).drewN _)) (by rfl) claimed (N := N) (by exact HN0.out) (by exact HNl.out)).mono ?_; rintro e w5 ⟨ao', cap', rfl, c5, R5, ⟨x0, x1, x2, x3, x4, x5, x6, lx⟩, ⟨s0, s1, s2, s3, s4, s5, lp⟩⟩; obtain ⟨f0, f1, f2, f3, f4, f5, f6⟩ := R5.out.fx))
    all_goals
      have R6 := Lib.hid (((R5.out.put 5 (.slice ao' N cap')).put 6 (.int .i64 claimed)).put 2 (.int .i64 2))
      clear x0 x1 x2 x3 x4 x5 x6 lx s0 s1 s2 s3 s4 s5 lp f0 f1 f2 f3 f4 f5 f6 R5
      generalize World.setCell _ _ _ = W6 at R6 ⊢
      obtain ⟨x0, x1, x2, x3, x4, x5, x6, lx⟩ := R6.out.xs rfl
      obtain ⟨s0, s1, s2, s3, s4, s5, lp⟩ := R6.out.ss
      go_wp2_with fail
      refine (scdone_s c5 _ _ _ _ _ hN2).mono ?_
      rintro e w6 ⟨rfl, c6, t6⟩
      have R7 := Lib.hid (R6.out.stpF t6)
      clear t6 R6 x0 x1 x2 x3 x4 x5 x6 lx s0 s1 s2 s3 s4 s5 lp
      obtain ⟨x0, x1, x2, x3, x4, x5, x6, lx⟩ := R7.out.xs rfl
      obtain ⟨s0, s1, s2, s3, s4, s5, lp⟩ := R7.out.ss
      go_wp2_with fail
      refine (tj_keep n claimed hi claimed 2 R7.out.ar R7.out.sq R7.out.sc (by first | exact H1.out | exact Int.not_lt.2 H1.out) Hw.out).mono ?_
      rintro e w8 ⟨rfl, c8, t8, a8, i8⟩
      have R8 := Lib.hid ((R7.out.are t8 a8).scan i8)
      clear t8 a8 i8 R7 x0 x1 x2 x3 x4 x5 x6 lx s0 s1 s2 s3 s4 s5 lp
      obtain ⟨y0, y1, y2, y3, y4, y5, y6, ly, nxy⟩ := R8.out.ys
      obtain ⟨g0, g1, g2, g3, g4, g5, g6⟩ := R8.out.fy
      go_wp2
      exact bodyPost_ret (v := .tuple #[.agg #[.pointer (some ⟨p, 0, none⟩), .int .i64 n, .int .i64 3, .int .i64 claimed, .int .i64 hi, .slice ao' N cap', .int .i64 claimed], .nilIface]) (by simp [results, Tryz.results83, go_sem, y0, y1, y2, y3, y4, y5, y6]) rfl ⟨_, _, rfl, R8.out.res _ _ _ _ _ _ _⟩
end
end Go.Proofs.YtiphdedfbafhkaaGreatDoor
