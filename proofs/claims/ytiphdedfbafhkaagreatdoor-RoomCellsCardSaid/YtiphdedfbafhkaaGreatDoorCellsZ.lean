/- The walk of the law RoomCells. No condition but that the table of math/bits holds what the program lays there. -/
import Derived.Test.YtiphdedfbafhkaaGreatDoorRoomX
import Derived.Test.YtiphdedfbafhkaaGreatDoorCeX
import Derived.Test.YtiphdedfbafhkaaGreatDoorRgA
namespace Go.Proofs.YtiphdedfbafhkaaGreatDoor
open Go.RowKit

/-- A ring that is new, with one cell more that holds back. -/
theorem CF.start_s {sh g gp : Nat} {sl : Value} {mp bp : Nat} : CF sh 1 0 0 0 (([] ++ [-1] : List Int) ++ [-1]) { (⟨false, sh, g, sl, mp, bp, gp, ([] : List Int).length, 0, 0, -1, -1, 0, [], [], none, 0⟩ : RD) with ids := [((1 : Nat) : Int)] } :=
  ⟨rfl, rfl, Nat.zero_lt_one, by decide, rfl, fun _ => ⟨rfl, rfl, ⟨Int.le_refl 0, Int.le_refl 0⟩, rfl⟩, fun e => (by cases e)⟩
theorem CF.start_m {sh g gp : Nat} {sl : Value} {mp bp : Nat} (gi : Nat) (hgi : gi = 2 + 2 ^ sh) : CF sh gi 0 0 0 (([] ++ [-1] ++ [-1] ++ List.replicate (2 ^ sh) (-1) : List Int) ++ [-1]) { (⟨true, sh, g, sl, mp, bp, gp, ([] : List Int).length, ([] : List Int).length + 1, ([] : List Int).length + 2, 0, 0, 0, [], [], none, 0⟩ : RD) with ids := [(gi : Int)] } := by
  have hp : 0 < 2 ^ sh := Nat.two_pow_pos sh
  refine ⟨rfl, rfl, ?_, ?_, ?_, fun e => (by cases e), fun _ => ⟨?_, ?_, ?_, ?_, ?_⟩⟩
  · show (0 : Nat) < gi; omega
  · simp; omega
  · subst hgi
    have : (([] ++ [-1] ++ [-1] ++ List.replicate (2 ^ sh) (-1) : List Int)).length = 2 + 2 ^ sh := by simp; omega
    rw [← this]
    simp [List.getD]
  · show (0 : Nat) < 0 + 1; decide
  · show (0 : Nat) + 1 < 0 + 2; decide
  · show (0 : Nat) + 2 + 2 ^ sh ≤ gi; omega
  · rfl
  · rfl
/-- Two worlds' slots. -/
theorem slot0 {sh : Nat} (h : sh < 21) : slotOf sh (2 ^ sh) = 0 ∧ slotOf sh 0 = 0 := by
  have a := slotOf_lt sh (2 ^ sh) h
  have b := slotOf_lt sh 0 h
  rw [Int.emod_self] at a
  simp at b
  omega

theorem RMs.stp5 {c c' : Nat → Nat} {w w' : World} {K r ar ck tb : Nat} {la : List Int} {now : Int} {tl : List Tm} {l : List One} {D : List RD} {ao : Option Addr} {cap i : Nat} (h : RMs c K w r ar ck tb la now tl l D ao cap) (t : Stp (· = kb K i + 5) c c' w w') : RMs c' K w' r ar ck tb la now tl l D ao cap :=
  ⟨h.rm.stp t (by unfold kb; omega) (by unfold kb; omega) (by unfold kb; omega) (by unfold kb; omega) (by unfold kb; omega), h.rr.stp t (by unfold kb; omega), fun j d hd => (h.rg j d hd).stp t (by unfold kb; omega) (by unfold kb; omega) (by unfold kb; omega) (by unfold kb; omega) (by unfold kb; omega) (by unfold kb; omega) (by unfold kb; omega)⟩

/-- What goes round by round. -/
def CR (w0 : World) (r ar ck tb sh gi sp : Nat) (b : Bool) (sv iv : Value) (wr : World) : Prop :=
  ∃ (j : Nat) (m : Int) (c : Nat → Nat), sv = .int .i64 m ∧ iv = .int .i64 j ∧ Hid (j ≤ 3) ∧ Hid (0 ≤ m ∧ m ≤ 32 * (j : Int)) ∧ Hid (CG (fun _ => 0) w0 2 r ar ck tb sh gi sp b (j : Int) m m c wr)
/-- What goes step by step of a claim. -/
def CS (w0 : World) (r ar ck tb sh gi sp : Nat) (b : Bool) (j : Nat) (m cn : Int) (xb : Nat) (gv iv : Value) (wr : World) : Prop :=
  ∃ (k : Nat) (xu : RV) (dn : Bool) (c : Nat → Nat), gv = .nilIface ∧ iv = .int .i64 k ∧ Hid (k ≤ 3) ∧ Hid (CC (fun _ => 0) w0 2 r ar ck tb sh gi sp b (j : Int) m cn k dn [.bool xu.b, .pointer xu.p1, .int .i64 xu.a, .slice xu.so xu.sn xu.sc, .int .i64 xu.m, .bool xu.s, .bool xu.d, .bool xu.f, .pointer xu.p2, .int .i64 xu.n, .int .i64 xu.st, .int .i64 xu.cl, .int .i64 xu.hi, .slice xu.o2 xu.n2 xu.c2, .int .i64 xu.mo] c wr) ∧ Hid (Blk c 0 wr xb [.bool xu.b, .pointer xu.p1, .int .i64 xu.a, .slice xu.so xu.sn xu.sc, .int .i64 xu.m, .bool xu.s, .bool xu.d, .bool xu.f, .pointer xu.p2, .int .i64 xu.n, .int .i64 xu.st, .int .i64 xu.cl, .int .i64 xu.hi, .slice xu.o2 xu.n2 xu.c2, .int .i64 xu.mo] 38)
/-- What goes show by show. -/
def CA (w0 : World) (r ar ck tb sh gi sp : Nat) (b : Bool) (j : Nat) (m e : Int) (av : Value) (wr : World) : Prop :=
  ∃ (y : Int) (c : Nat → Nat), av = .int .i64 y ∧ Hid (m ≤ y ∧ y ≤ e) ∧ Hid (CG (fun _ => 0) w0 2 r ar ck tb sh gi sp b ((j : Int) + 1) e y c wr)
theorem ck_meas (k : Nat) (h : k + 1 ≤ 3) : 4 - (intOf (.int .i64 ((k + 1 : Nat) : Int))).toNat < 4 - (intOf (.int .i64 (k : Int))).toNat := by
  show 4 - ((k + 1 : Nat) : Int).toNat < 4 - (k : Int).toNat
  omega
theorem cj_meas (k : Nat) (h : k < 3) : 3 - (intOf (.int .i64 ((k + 1 : Nat) : Int))).toNat < 3 - (intOf (.int .i64 (k : Int))).toNat := by
  show 3 - ((k + 1 : Nat) : Int).toNat < 3 - (k : Int).toNat
  omega
theorem ca_meas {a b e : Int} (h : b < a) (h2 : b < e) : (e - intOf (.int .i64 a)).toNat < (e - intOf (.int .i64 b)).toNat := by
  show (e - a).toNat < (e - b).toNat
  omega

theorem ev2 {c : Nat → Nat} {w : World} {xb : Nat} {a b : Value} {k : Nat} {t : TypeId} (h : Blk c k w xb [a, b] t) : w.cell? ⟨xb, 0, none⟩ = some a ∧ w.cell? ⟨xb, 1, none⟩ = some b := ⟨by simpa using h.cell 0, by simpa using h.cell 1⟩
noncomputable def Tryz.crce31 : Code := (Tryz.f4.body.bind (regionN 31)).getD .skip

set_option maxRecDepth 1000000 in
set_option maxHeartbeats 100000000 in
theorem Tryz.rrce31 {r ar ck tb sh sp xb cap : Nat} {nn : Int} {la : List Int} {d : RD} {ao : Option Addr} {c9 : Nat → Nat} {w9 : World} (R9 : Hid (RMs c9 2 w9 r ar ck tb la 0 [] [] [d] ao cap)) (SL : Hid (d.sl = .pointer (some ⟨sp, 0, none⟩))) (G9 : Hid (RingAt c9 (kb 2 0 + 5) w9 sp sh (List.replicate (2 ^ sh) ⟨0, 0⟩))) (X9 : Hid (Blk c9 1 w9 xb [.int .i64 nn, .int .i64 3] 80)) {fr0 fr1 fr2 fr3 fr4 fr5 fr6 fr8 fr10 fr11 fr12 fr13 fr14 fr15 fr16 fr17 fr18 fr19 fr20 fr21 fr22 fr24 fr25 fr26 fr27 fr28 fr29 fr30 fr31 fr32 fr33 fr34 fr35 fr36 fr37 fr38 fr39 fr40 fr41 fr42 fr43 fr44 fr45 fr46 fr47 fr48 fr49 fr50 fr51 fr52 fr53 fr54 fr55 fr56 fr57 fr58 fr59 fr60 fr61 fr62 fr63 fr64 fr65 fr66 fr67 fr68 fr69 fr70 fr71 fr72 fr73 fr74 fr75 fr76 fr77 fr78 fr79 fr80 fr81 fr82 fr83 fr84 fr85 fr86 fr87 fr88 fr89 fr90 fr91 fr92 fr93 fr94 fr95 fr96 fr97 fr98 fr99 fr100 fr101 fr102 fr103 fr104 fr105 fr106 fr107 fr108 fr109 fr110 fr111 fr112 fr113 fr114 fr115 fr116 fr117 fr118 fr119 fr120 fr121 fr122 fr123 fr124 fr125 fr126 fr127 fr128 fr129 fr130 fr131 fr132 fr133 fr134 fr135 fr136 fr137 fr138 fr139 fr140 fr141 fr142 fr143 fr144 fr145 fr146 fr147 fr148 fr149 fr150 fr151 fr152 fr153 fr154 fr155 fr156 fr157 fr158 fr159 fr160 fr161 fr162 fr163 fr164 fr165 fr166 fr167 fr168 fr169 fr170 fr171 fr172 fr173 fr174 fr175 fr176 fr177 fr178 fr179 fr180 fr181 fr182 fr183 fr184 fr185 fr186 fr187 fr188 fr189 fr190 fr191 fr192 fr193 fr194 : Value} {Q0 : Exit → Act → World → Prop}
    (hQ : ∀ (c' : Nat → Nat) (w' : World), ∀ g171 g172 g173 g174 g175 : Value, Hid (Stp (· = kb 2 0 + 5) c9 c' w9 w') → Hid (RMs c' 2 w' r ar ck tb la 0 [] [] [d] ao cap) → Hid (RingAt c' (kb 2 0 + 5) w' sp sh ((List.replicate (2 ^ sh) ⟨0, 0⟩).set (slotOf sh 0) ⟨nn, 3⟩)) → Q0 .normal ⟨#[fr0, fr1, fr2, fr3, fr4, fr5, fr6, .pointer (some ⟨r, 0, none⟩), fr8, .int .i64 0, fr10, fr11, fr12, fr13, fr14, fr15, fr16, fr17, fr18, fr19, fr20, fr21, fr22, .pointer (some ⟨xb, 0, none⟩), fr24, fr25, fr26, fr27, fr28, fr29, fr30, fr31, fr32, fr33, fr34, fr35, fr36, fr37, fr38, fr39, fr40, fr41, fr42, fr43, fr44, fr45, fr46, fr47, fr48, fr49, fr50, fr51, fr52, fr53, fr54, fr55, fr56, fr57, fr58, fr59, fr60, fr61, fr62, fr63, fr64, fr65, fr66, fr67, fr68, fr69, fr70, fr71, fr72, fr73, fr74, fr75, fr76, fr77, fr78, fr79, fr80, fr81, fr82, fr83, fr84, fr85, fr86, fr87, fr88, fr89, fr90, fr91, fr92, fr93, fr94, fr95, fr96, fr97, fr98, fr99, fr100, fr101, fr102, fr103, fr104, fr105, fr106, fr107, fr108, fr109, fr110, fr111, fr112, fr113, fr114, fr115, fr116, fr117, fr118, fr119, fr120, fr121, fr122, fr123, fr124, fr125, fr126, fr127, fr128, fr129, fr130, fr131, fr132, fr133, fr134, fr135, fr136, fr137, fr138, fr139, fr140, fr141, fr142, fr143, fr144, fr145, fr146, fr147, fr148, fr149, fr150, fr151, fr152, fr153, fr154, fr155, fr156, fr157, fr158, fr159, fr160, fr161, fr162, fr163, fr164, fr165, fr166, fr167, fr168, fr169, fr170, g171, g172, g173, g174, g175, .bool false, fr177, fr178, fr179, fr180, fr181, fr182, fr183, fr184, fr185, fr186, fr187, fr188, fr189, fr190, fr191, fr192, fr193, fr194], []⟩ w') : Code.wp Tryz.prog Tryz.crce31 Q0 ⟨#[fr0, fr1, fr2, fr3, fr4, fr5, fr6, .pointer (some ⟨r, 0, none⟩), fr8, .int .i64 0, fr10, fr11, fr12, fr13, fr14, fr15, fr16, fr17, fr18, fr19, fr20, fr21, fr22, .pointer (some ⟨xb, 0, none⟩), fr24, fr25, fr26, fr27, fr28, fr29, fr30, fr31, fr32, fr33, fr34, fr35, fr36, fr37, fr38, fr39, fr40, fr41, fr42, fr43, fr44, fr45, fr46, fr47, fr48, fr49, fr50, fr51, fr52, fr53, fr54, fr55, fr56, fr57, fr58, fr59, fr60, fr61, fr62, fr63, fr64, fr65, fr66, fr67, fr68, fr69, fr70, fr71, fr72, fr73, fr74, fr75, fr76, fr77, fr78, fr79, fr80, fr81, fr82, fr83, fr84, fr85, fr86, fr87, fr88, fr89, fr90, fr91, fr92, fr93, fr94, fr95, fr96, fr97, fr98, fr99, fr100, fr101, fr102, fr103, fr104, fr105, fr106, fr107, fr108, fr109, fr110, fr111, fr112, fr113, fr114, fr115, fr116, fr117, fr118, fr119, fr120, fr121, fr122, fr123, fr124, fr125, fr126, fr127, fr128, fr129, fr130, fr131, fr132, fr133, fr134, fr135, fr136, fr137, fr138, fr139, fr140, fr141, fr142, fr143, fr144, fr145, fr146, fr147, fr148, fr149, fr150, fr151, fr152, fr153, fr154, fr155, fr156, fr157, fr158, fr159, fr160, fr161, fr162, fr163, fr164, fr165, fr166, fr167, fr168, fr169, fr170, fr171, fr172, fr173, fr174, fr175, fr176, fr177, fr178, fr179, fr180, fr181, fr182, fr183, fr184, fr185, fr186, fr187, fr188, fr189, fr190, fr191, fr192, fr193, fr194], []⟩ w9 := by
  conv => arg 2; whnf
  refine wp_region_noPanic ?_
  have HQ := Lib.hid hQ
  clear hQ
  have R0 := Lib.hid (R9.out.stpF (Stp.refl (fun _ => False) c9 w9).drew)
  have G0 := Lib.hid (G9.out.stp (Stp.refl (fun _ => False) c9 w9).drew id)
  have X0 := Lib.hid (X9.out.stp (Stp.refl (fun _ => False) c9 w9).drew id)
  have T0 := Lib.hid ((Stp.refl (· = kb 2 0 + 5) c9 w9).drew)
  refine wp_region_held_drew (S := (fun w => w.cell? ⟨xb, 0, none⟩ = some (.int .i64 nn) ∧ w.cell? ⟨xb, 1, none⟩ = some (.int .i64 3))) (by kernel_rfl) (ev2 X0.out) (fun hS0 => ?_)
  have hS := Lib.hid hS0
  clear hS0
  generalize w9.drew = wq0 at R0 G0 X0 T0 hS ⊢
  refine wpH_takeL (i := 0) (v := ?_) rfl (by kernel_rfl) (by kernel_rfl) (by kernel_rfl) (fun _ _ _ h => h) (Or.inl ⟨by rfl, ?_⟩) hS.out ?_
  rotate_left
  · intro wy hSy
    clear hSy
    go_simp
    try with_reducible rfl
  try simp only [Act.put, List.setIfInBounds_toArray, List.set_cons_zero, List.set_cons_succ]
  refine wpH_takeL (i := 1) (v := ?_) rfl (by kernel_rfl) (by kernel_rfl) (by kernel_rfl) (fun _ _ _ h => h) (Or.inl ⟨by rfl, ?_⟩) hS.out ?_
  rotate_left
  · intro wy hSy
    clear hSy
    go_simp
    try with_reducible rfl
  try simp only [Act.put, List.setIfInBounds_toArray, List.set_cons_zero, List.set_cons_succ]
  refine wpH_takeL (i := 3) (v := ?_) rfl (by kernel_rfl) (by kernel_rfl) (by kernel_rfl) (fun _ _ _ h => h) (Or.inl ⟨by rfl, ?_⟩) hS.out ?_
  rotate_left
  · intro wy hSy
    obtain ⟨s0, s1⟩ := hSy
    go_simp
    try with_reducible rfl
  try simp only [Act.put, List.setIfInBounds_toArray, List.set_cons_zero, List.set_cons_succ]
  refine wpAnyH_ready (rs := [2]) (by kernel_rfl) (by simp) (readyH_consL rfl (fun K hK => ?_) AllReadyH.nil)
  go_simp
  go_at_call 28
  refine (rslots_c (i := 0) R0.out rfl).mono ?_
  rintro e wq1 ⟨rfl, hwq⟩
  subst hwq
  rw [SL.out]
  go_simp
  refine hK.out _ _ (ev2 X0.out) (fun hS1 => ?_)
  clear hK K hS
  have hS := Lib.hid hS1
  clear hS1
  try simp only [Act.put, List.setIfInBounds_toArray, List.set_cons_zero, List.set_cons_succ]
  refine wpAnyH_ready (rs := [4]) (by kernel_rfl) (by simp) (readyH_consL rfl (fun K hK => ?_) AllReadyH.nil)
  go_simp
  go_at_call 42
  refine (slput_ok G0.out 0 ⟨nn, 3⟩ (by decide) (by decide)).mono ?_
  rintro e wq2 ⟨rfl, c2, t2, g2⟩
  have R1 := Lib.hid (R0.out.stp5 t2)
  have G1 := Lib.hid g2
  have X1 := Lib.hid (X0.out.stp t2 (by unfold kb; omega))
  have T1 := Lib.hid t2
  clear t2 g2
  go_simp
  refine hK.out _ _ (ev2 X1.out) (fun hS1 => ?_)
  clear hK K hS
  have hS := Lib.hid hS1
  clear hS1
  try simp only [Act.put, List.setIfInBounds_toArray, List.set_cons_zero, List.set_cons_succ]
  refine wpH_takeL (i := 5) (v := ?_) rfl (by kernel_rfl) (by kernel_rfl) (by kernel_rfl) (fun _ _ _ h => h) (Or.inl ⟨by rfl, ?_⟩) hS.out ?_
  rotate_left
  · intro wy hSy
    clear hSy
    go_simp
    try with_reducible rfl
  try simp only [Act.put, List.setIfInBounds_toArray, List.set_cons_zero, List.set_cons_succ]
  refine wpAnyH_done (by kernel_rfl) ?_ _
  exact HQ.out _ _ _ _ _ _ _ (Lib.hid (T0.out.trans T1.out)) R1 G1

set_option maxRecDepth 100000 in
set_option maxHeartbeats 100000000 in
theorem rcells_s (s sh kd nn : Nat) (w : World) (hsh : s % 6 = sh) (hkd : (kd : Int) % 2 = 0) (hnn : nn ≤ 255) (ht : Tab w) :
    Calls Tryz.prog 4 #[.int .u8 s, .int .u8 kd, .int .u8 nn] w fun e w' => e = .returned (.bool true) ∧ Below w.heap.size w w' := by
  have Ht := Lib.hid ht
  have Hnn := Lib.hid hnn
  have Hsh := Lib.hid (show sh < 6 by omega)
  have HB := Lib.hid (two_pow_bd sh (by omega))
  have hw2 := wrap_two_pow sh (by omega)
  have hNN : wrap64 (2 ^ (s % 6)) = 2 ^ sh := by rw [hsh, hw2]
  have hK3 : wrap64 (0 : Int) = 0 := IntWalk.wrap64_in _ (by decide)
  have hN9 := Lib.hid hw2
  have hP5 : (2 : Int) ^ sh ≤ 32 := by
    have h := Hsh.out
    rcases (show sh = 0 ∨ sh = 1 ∨ sh = 2 ∨ sh = 3 ∨ sh = 4 ∨ sh = 5 by omega) with rfl | rfl | rfl | rfl | rfl | rfl <;> decide
  have HP5 := Lib.hid hP5
  clear ht hw2 hsh hnn hP5
  go_enter Tryz.func4, Tryz.ntmps4
  go_wp2_with fail
  refine (rmnew_c (fun _ => 0) 2 w).mono ?_
  rintro e w1 ⟨r, ar, ck, tb, rfl, c1, s1, m1⟩
  have S1 := Lib.hid s1
  have M1 := Lib.hid (RMs.start m1)
  have HC1 := Lib.hid (show c1 1 = 0 from S1.out.col _ (World.block_lt_of_cell? w _ (Ht.out 0 (by decide))))
  clear s1 m1
  go_wp2_with fail
  try simp only [hNN, hkd]
  clear hNN
  refine (rring_s M1.out (by decide) (j := 0) rfl sh (by have := Hsh.out; omega) (by decide) (Ht.out.stp S1.out (by decide)) HC1.out (Nat.le_refl 2) (n := 2 ^ sh) (by simp)).mono ?_
  rintro e w2 ⟨rfl, g, sp, mp, gp, ao1, cap1, c2, s2, m2, g2⟩
  obtain ⟨la, hla⟩ : ∃ la, la = ([] ++ [-1] : List Int) := ⟨_, rfl⟩
  rw [← hla] at m2
  obtain ⟨d, hd⟩ : ∃ d, d = (⟨false, sh, g, .pointer (some ⟨sp, 0, none⟩), mp, 0, gp, ([] : List Int).length, 0, 0, -1, -1, 0, [], [], none, 0⟩ : RD) := ⟨_, rfl⟩
  have HF := Lib.hid (show d.many = false ∧ d.ids = [] ∧ d.cur = 0 ∧ la.getD 0 0 = -1 ∧ la.length = 1 ∧ d.sl = .pointer (some ⟨sp, 0, none⟩) ∧ CF sh 1 0 0 0 (la ++ [-1]) { d with ids := [((1 : Nat) : Int)] } by
    rw [hd, hla]
    exact ⟨rfl, rfl, rfl, rfl, by rfl, rfl, CF.start_s⟩)
  have M2 := Lib.hid (show RMs c2 2 w2 r ar ck tb la 0 [] [] [d] ao1 cap1 by rw [hd]; exact m2)
  have S2 := Lib.hid (S1.out.trans s2)
  have G2 := Lib.hid (show RingAt c2 (kb 2 0 + 5) w2 sp sh (List.replicate (2 ^ sh) ⟨0, 0⟩) from g2)
  clear s2 m2 g2 hla hd M1 S1 HC1
  go_wp2_with fail
  refine (rmany_c (i := 0) (d := d) M2.out rfl).mono ?_
  rintro e w2' ⟨rfl, rfl⟩
  rw [HF.out.1]
  go_wp2_with fail
  refine (rshown_c (i := 0) (d := d) M2.out rfl).mono ?_
  rintro e w2' ⟨rfl, rfl⟩
  rw [HF.out.1]
  rw [if_neg (by decide)]
  go_wp2_with fail
  refine (rmarena_c M2.out.rm).mono ?_
  rintro e w2' ⟨rfl, rfl⟩
  go_wp2_with fail
  refine (alloc_s M2.out.rm.aa (-1) (by rw [HF.out.2.2.2.2.1]; decide)).mono ?_
  rintro e w3 ⟨rfl, c3, t3, a3⟩
  have M3 := Lib.hid (M2.out.arena t3 a3)
  have S3 := Lib.hid (S2.out.trans (t3.mono (fun j hj => by omega)))
  have G3 := Lib.hid (G2.out.stp t3 (by unfold kb; omega))
  rw [HF.out.2.2.2.2.1]
  clear t3 a3 M2 S2 G2
  go_wp2_with fail
  refine (rmarena_c M3.out.rm).mono ?_
  rintro e w3' ⟨rfl, rfl⟩
  go_wp2_with fail
  refine (rcursor_c (i := 0) (d := d) M3.out rfl).mono ?_
  rintro e w3' ⟨rfl, rfl⟩
  rw [HF.out.2.2.1]
  go_wp2_with fail
  refine (load_s M3.out.rm.aa 0 (by simp)).mono ?_
  rintro e w4 ⟨rfl, c4, t4, a4⟩
  have M4 := Lib.hid (M3.out.arena t4 a4)
  have S4 := Lib.hid (S3.out.trans (t4.mono (fun j hj => by omega)))
  have G4 := Lib.hid (G3.out.stp t4 (by unfold kb; omega))
  have hz : (la ++ [-1]).getD 0 0 = -1 := by
    have h1 := HF.out.2.2.2.1
    have h2 := HF.out.2.2.2.2.1
    have hz0 : 0 < la.length := by first | (rw [h2]; exact Nat.add_pos_left (by decide) _) | (rw [h2]; decide)
    simp only [List.getD]
    rw [List.getElem?_append_left hz0]
    simpa [List.getD] using h1
  rw [hz]
  clear t4 a4 M3 S3 G3 hz
  go_wp2_with fail
  refine (rgate_c (i := 0) (d := d) M4.out rfl).mono ?_
  rintro e w4' ⟨rfl, rfl⟩
  go_wp2_with fail
  refine (cadd M4.out 1 (by decide) HF.out.2.1).mono ?_
  rintro e w5 ⟨rfl, c5, t5, r5⟩
  have G5 := Lib.hid (show CG (fun _ => 0) w 2 r ar ck tb sh 1 sp false ((0 : Nat) : Int) 0 0 c5 w5 from ⟨_, { d with ids := [((1 : Nat) : Int)] }, ao1, cap1, HF.out.1, S4.out.trans (t5.mono (fun j hj => by unfold kb at hj; omega)), r5, HF.out.2.2.2.2.2.2, HF.out.2.2.2.2.2.1, G4.out.stp t5 (by unfold kb; omega)⟩)
  clear t5 r5 M4 S4 G4 HF
  clear hkd hK3
  generalize 1 = gi at G5
  go_wp2_with fail
  go_loopw [15, 93] (fun sv iv wr => CR w r ar ck tb sh gi sp false sv iv wr) (fun _ i _ => 3 - (intOf i).toNat)
  case atStart => exact ⟨0, 0, c5, rfl, rfl, Lib.hid (by decide), Lib.hid (by simp), G5⟩
  case round =>
    clear G5
    obtain ⟨j, m, c6, rfl, rfl, Hj, Hm, HG⟩ := hrel
    by_cases hlt : j < 3
    · obtain ⟨cn, hcn⟩ : ∃ cn : Int, cn = (nn : Int) % 2 ^ sh + 1 := ⟨_, rfl⟩
      have hp : (0 : Int) < 2 ^ sh := Int.pow_pos (by decide)
      have hm0 := Int.emod_nonneg (nn : Int) (show (2 : Int) ^ sh ≠ 0 by omega)
      have hm1 := Int.emod_lt_of_pos (nn : Int) hp
      have HCN := Lib.hid (show 1 ≤ cn ∧ cn ≤ 2 ^ sh ∧ cn ≤ 32 by have := HP5.out; omega)
      have F1 : wrap64 (nn : Int) = nn := IntWalk.wrap64_in _ (by have := Hnn.out; constructor <;> omega)
      have F2 : (nn : Int).tmod (2 ^ sh) = (nn : Int) % 2 ^ sh := Int.tmod_eq_emod_of_nonneg (by omega)
      have F3 : ((2 : Int) ^ sh == 0) = false := by simp; omega
      have F4 : wrap64 ((nn : Int) % 2 ^ sh + 1) = cn := by rw [← hcn]; exact IntWalk.wrap64_in _ (by have := HP5.out; constructor <;> omega)
      have F5 : wrap64 ((nn : Int) % 2 ^ sh) = (nn : Int) % 2 ^ sh := IntWalk.wrap64_in _ (by have := HP5.out; constructor <;> omega)
      have HMX := Lib.hid (show 0 ≤ m ∧ m ≤ 1048576 by have := Hm.out; omega)
      have W1 := Lib.hid (show wrap64 ((j : Int) + 1) = ((j + 1 : Nat) : Int) by rw [IntWalk.wrap64_in _ ⟨by omega, by omega⟩]; omega)
      have W2 := Lib.hid (show wrap64 (m + cn) = m + cn from IntWalk.wrap64_in _ (by have := HMX.out; have := HCN.out; constructor <;> omega))
      have W3 := Lib.hid (show wrap64 (m + cn - 1) = m + cn - 1 from IntWalk.wrap64_in _ (by have := HMX.out; have := HCN.out; constructor <;> omega))
      have W6 := Lib.hid (show wrap64 m = m from IntWalk.wrap64_in _ (by have := HMX.out; constructor <;> omega))
      have HLT := Lib.hid hlt
      have g3 : (j : Int) < 3 := by omega
      clear hp hm0 hm1 hlt hcn
      go_wp2_with fail
      clear F1 F2 F3 F5
      try rw [F4]
      clear F4 g3
      refine (cclaim HG.out (Nat.le_refl 2) (by have := Hsh.out; omega) HCN.out.1 HCN.out.2.1 HMX.out.1 HMX.out.2).mono ?_
      rintro e w6 ⟨xv, dn, c7, rfl, kc⟩
      have KC5 := Lib.hid kc
      clear kc HG
      obtain ⟨tb_, htb⟩ : ∃ x, x = w6.heap.size := ⟨_, rfl⟩
      have HXB := Lib.hid (show w.heap.size ≤ tb_ by rw [htb]; exact KC5.out.st.size)
      obtain ⟨c8, hc8, T8⟩ := ((Stp.refl (fun _ => False) c7 w6).alloc (.cells #[.bool xv.b, .pointer xv.p1, .int .i64 xv.a, .slice xv.so xv.sn xv.sc, .int .i64 xv.m, .bool xv.s, .bool xv.d, .bool xv.f, .pointer xv.p2, .int .i64 xv.n, .int .i64 xv.st, .int .i64 xv.cl, .int .i64 xv.hi, .slice xv.o2 xv.n2 xv.c2, .int .i64 xv.mo] 38) 0).name
      have KC7 := Lib.hid (KC5.out.stpF T8.out)
      have B7 := Lib.hid (show Blk c8 0 (w6.alloc (.cells #[.bool xv.b, .pointer xv.p1, .int .i64 xv.a, .slice xv.so xv.sn xv.sc, .int .i64 xv.m, .bool xv.s, .bool xv.d, .bool xv.f, .pointer xv.p2, .int .i64 xv.n, .int .i64 xv.st, .int .i64 xv.cl, .int .i64 xv.hi, .slice xv.o2 xv.n2 xv.c2, .int .i64 xv.mo] 38)) tb_ [.bool xv.b, .pointer xv.p1, .int .i64 xv.a, .slice xv.so xv.sn xv.sc, .int .i64 xv.m, .bool xv.s, .bool xv.d, .bool xv.f, .pointer xv.p2, .int .i64 xv.n, .int .i64 xv.st, .int .i64 xv.cl, .int .i64 xv.hi, .slice xv.o2 xv.n2 xv.c2, .int .i64 xv.mo] 38 by rw [hc8.out, htb]; exact Blk.new c7 0 w6 _ _)
      clear hc8 T8 KC5
      go_wp2_with fail
      rw [← htb]
      clear htb
      go_loopw [18, 19] (fun gv iv wr => CS w r ar ck tb sh gi sp false j m cn tb_ gv iv wr) (fun _ iv _ => 4 - (intOf iv).toNat)
      case atStart => exact ⟨0, xv, dn, c8, rfl, rfl, Lib.hid (by decide), KC7, B7⟩
      case round =>
        clear KC7 B7
        obtain ⟨k9, xu, dn, c9, rfl, rfl, HK4, KC8, B8⟩ := hrel
        obtain ⟨y0, y1, y2, y3, y4, y5, y6, y7, y8, y9, y10, y11, y12, y13, y14⟩ := cells15 B8.out
        have g5 : (k9 : Int) < 20 := by have := HK4.out; omega
        go_wp2_with fail
        refine (cdone KC8.out).mono ?_
        rintro e w8 ⟨rfl, c10, t9, kc9⟩
        have KC9 := Lib.hid kc9
        have B9 := Lib.hid (B8.out.stp t9 id)
        clear t9 kc9 KC8 B8 y0 y1 y2 y3 y4 y5 y6 y7 y8 y9 y10 y11 y12 y13 y14
        rcases dn with _ | _
        · obtain ⟨y0, y1, y2, y3, y4, y5, y6, y7, y8, y9, y10, y11, y12, y13, y14⟩ := cells15 B9.out
          go_wp2_with fail
          refine (cstep KC9.out (Nat.le_refl 2) (by have := Hsh.out; omega) HCN.out.1 HCN.out.2.1 HMX.out.1 HMX.out.2 (by have := HLT.out; omega)).mono ?_
          rintro e w10 ⟨xt, dn, c11, rfl, t10, kc10⟩
          have KC10 := Lib.hid kc10
          have B10 := Lib.hid (B9.out.stp t10 (by decide))
          have NB := Lib.hid (KC10.out.1)
          clear t10 kc10 KC9 B9 y0 y1 y2 y3 y4 y5 y6 y7 y8 y9 y10 y11 y12 y13 y14
          obtain ⟨y0, y1, y2, y3, y4, y5, y6, y7, y8, y9, y10, y11, y12, y13, y14⟩ := cells15 B10.out
          obtain ⟨z0, z1, z2, z3, z4, z5, z6, z7, z8, z9, z10, z11, z12, z13, z14⟩ := frees15 B10.out
          have lb := B10.out.lt
          have T11 := Lib.hid (put15_stp (Stp.refl (· = 0) c11 w10) (.bool xt.b) (.pointer xt.p1) (.int .i64 xt.a) (.slice xt.so xt.sn xt.sc) (.int .i64 xt.m) (.bool xt.s) (.bool xt.d) (.bool xt.f) (.pointer xt.p2) (.int .i64 xt.n) (.int .i64 xt.st) (.int .i64 xt.cl) (.int .i64 xt.hi) (.slice xt.o2 xt.n2 xt.c2) (.int .i64 xt.mo) B10.out.1)
          have B11 := Lib.hid (put15_blk B10.out (.bool xt.b) (.pointer xt.p1) (.int .i64 xt.a) (.slice xt.so xt.sn xt.sc) (.int .i64 xt.m) (.bool xt.s) (.bool xt.d) (.bool xt.f) (.pointer xt.p2) (.int .i64 xt.n) (.int .i64 xt.st) (.int .i64 xt.cl) (.int .i64 xt.hi) (.slice xt.o2 xt.n2 xt.c2) (.int .i64 xt.mo))
          have N11 := Lib.hid (put15_new KC10.out.st (.bool xt.b) (.pointer xt.p1) (.int .i64 xt.a) (.slice xt.so xt.sn xt.sc) (.int .i64 xt.m) (.bool xt.s) (.bool xt.d) (.bool xt.f) (.pointer xt.p2) (.int .i64 xt.n) (.int .i64 xt.st) (.int .i64 xt.cl) (.int .i64 xt.hi) (.slice xt.o2 xt.n2 xt.c2) (.int .i64 xt.mo) HXB.out)
          have KC11 := Lib.hid (KC10.out.stp0 T11.out (by decide) N11.out)
          have W5 := Lib.hid (show wrap64 ((k9 : Int) + 1) = ((k9 + 1 : Nat) : Int) by rw [IntWalk.wrap64_in _ ⟨by omega, by omega⟩]; omega)
          have g6 := Lib.hid g5
          clear KC10 B10 T11 N11
          go_wp2
          go_roundw
          case rel => exact ⟨k9 + 1, xt, dn, c11, rfl, by first | rfl | rw [W5.out], NB, KC11, B11⟩
          case measure => first | exact ck_meas _ NB.out | (simp only [W5.out]; exact ck_meas _ NB.out)
        · obtain ⟨y0, y1, y2, y3, y4, y5, y6, y7, y8, y9, y10, y11, y12, y13, y14⟩ := cells15 B9.out
          have V2 := W2.out
          have V3 := W3.out
          have V6 := W6.out
          by_cases hfull : (2 : Int) ^ sh < m + cn
          · have hdec : decide ((2 : Int) ^ sh < m + cn) = true := decide_eq_true hfull
            have HFU := Lib.hid hfull
            go_wp2_with fail
            refine (cfull KC9.out).mono ?_
            rintro e w10 ⟨rfl, c11, t10, kc10⟩
            have KC10 := Lib.hid kc10
            have B10 := Lib.hid (B9.out.stp t10 id)
            clear t10 kc10 KC9 B9 y0 y1 y2 y3 y4 y5 y6 y7 y8 y9 y10 y11 y12 y13 y14
            rw [hdec]
            obtain ⟨y0, y1, y2, y3, y4, y5, y6, y7, y8, y9, y10, y11, y12, y13, y14⟩ := cells15 B10.out
            go_wp2_with fail
            refine (cfull KC10.out).mono ?_
            rintro e w11 ⟨rfl, c12, t11, kc11⟩
            have HG := Lib.hid ((CC.over kc11 HCN.out.1).2 HFU.out)
            clear t11 kc11 KC10 B10 y0 y1 y2 y3 y4 y5 y6 y7 y8 y9 y10 y11 y12 y13 y14
            rw [hdec]
            go_wp2_with fail
            obtain ⟨la9, d9, ao9, cap9, hb9, st9, rm9, -, sl9, rg9⟩ := HG.out
            have ST9 := Lib.hid st9
            have RM9 := Lib.hid rm9
            have RG9 := Lib.hid rg9
            have SL9 := Lib.hid sl9
            clear hb9 st9 rm9 sl9 rg9 HG
            have W9 := Lib.hid (show wrap64 (nn : Int) = nn from IntWalk.wrap64_in _ (by have := Hnn.out; constructor <;> omega))
            have e9 := W9.out
            obtain ⟨xb, hxb⟩ : ∃ x, x = w11.heap.size := ⟨_, rfl⟩
            obtain ⟨ca, hca, ta⟩ := ((Stp.refl (fun _ => False) c12 w11).alloc (.cells #[.int .i64 nn, .int .i64 3] 80) 1).name
            have RMa := Lib.hid (RM9.out.stpF ta.out)
            have RGa := Lib.hid (RG9.out.stp ta.out id)
            have STa := Lib.hid (ST9.out.trans (ta.out.mono (fun _ h => h.elim)))
            have Xa := Lib.hid (show Blk ca 1 (w11.alloc (.cells #[.int .i64 nn, .int .i64 3] 80)) xb [.int .i64 nn, .int .i64 3] 80 by rw [hca.out, hxb]; exact Blk.new c12 1 w11 _ _)
            clear hca ta RM9 RG9 ST9
            go_upto_region 31 with fail
            try simp only [e9]
            rw [← hxb]
            generalize w11.alloc (.cells #[.int .i64 nn, .int .i64 3] 80) = wa at RMa RGa STa Xa ⊢
            clear hxb
            refine Tryz.rrce31 RMa SL9 RGa Xa (fun cb wb _ _ _ _ _ Tb RMb RGb => ?_)
            have STb := Lib.hid (STa.out.trans (Tb.out.mono (fun j hj => by unfold kb at hj; omega)))
            have Xb := Lib.hid (Xa.out.stp Tb.out (by unfold kb; omega))
            clear RMa RGa STa Xa Tb
            go_wp2_with fail
            refine (rslots_c (i := 0) RMb.out rfl).mono ?_
            rintro e wb' ⟨rfl, rfl⟩
            rw [SL9.out]
            go_wp2_with fail
            refine (slget_ok RGb.out (2 ^ sh) (Int.le_of_lt (Int.pow_pos (by decide))) (by have := HB.out; omega)).mono ?_
            rintro e wc ⟨x, hx, rfl, bl⟩
            have hx2 : x = ⟨nn, 3⟩ := by
              have h0 := slot0 (sh := sh) (by have := Hsh.out; omega)
              rw [h0.1, h0.2] at hx
              rw [List.getElem?_set_self (by rw [List.length_replicate]; exact Nat.two_pow_pos sh)] at hx
              exact (Option.some.inj hx).symm
            subst hx2
            obtain ⟨cc, hcc, tc⟩ := (Stp.ofBelow (c := cb) bl 0).name
            have STc := Lib.hid (STb.out.trans (tc.out.mono (fun _ h => h.elim)))
            have Xc := Lib.hid (Xb.out.stp tc.out id)
            clear hcc tc bl hx RMb RGb STb Xb
            obtain ⟨yb, hyb⟩ : ∃ x, x = wc.heap.size := ⟨_, rfl⟩
            obtain ⟨cd, hcd, td⟩ := ((Stp.refl (fun _ => False) cc wc).alloc (.cells #[.int .i64 nn, .int .i64 3] 80) 1).name
            have STd := Lib.hid (STc.out.trans (td.out.mono (fun _ h => h.elim)))
            have Xd := Lib.hid (Xc.out.stp td.out id)
            have Yd := Lib.hid (show Blk cd 1 (wc.alloc (.cells #[.int .i64 nn, .int .i64 3] 80)) yb [.int .i64 nn, .int .i64 3] 80 by rw [hcd.out, hyb]; exact Blk.new cc 1 wc _ _)
            have Td := Lib.hid (Ht.out.stp STd.out (by decide))
            have HCd := Lib.hid (show cd 1 = 0 from STd.out.col _ (World.block_lt_of_cell? w _ (Ht.out 0 (by decide))))
            clear hcd td STc Xc
            go_wp2_with fail
            rw [← hyb]
            generalize wc.alloc (.cells #[.int .i64 nn, .int .i64 3] 80) = wd at STd Xd Yd Td ⊢
            clear hyb
            refine (awake14k 2 (by decide) cd _ Td.out HCd.out).mono ?_
            rintro e we ⟨rfl, ce, se⟩
            have STe := Lib.hid (STd.out.trans se)
            obtain ⟨x0, x1⟩ := ev2 (Xd.out.stp se (by decide))
            obtain ⟨y0, y1⟩ := ev2 (Yd.out.stp se (by decide))
            clear se STd Xd Yd Td HCd
            go_wp2
            go_ret
            exact ⟨by first | rfl | simp, STe.out.fin⟩
          · have hdec : decide ((2 : Int) ^ sh < m + cn) = false := decide_eq_false hfull
            have HFU := Lib.hid hfull
            go_wp2_with fail
            refine (cfull KC9.out).mono ?_
            rintro e w10 ⟨rfl, c11, t10, kc10⟩
            have KC10 := Lib.hid kc10
            have B10 := Lib.hid (B9.out.stp t10 id)
            clear t10 kc10 KC9 B9 y0 y1 y2 y3 y4 y5 y6 y7 y8 y9 y10 y11 y12 y13 y14
            rw [hdec]
            obtain ⟨y0, y1, y2, y3, y4, y5, y6, y7, y8, y9, y10, y11, y12, y13, y14⟩ := cells15 B10.out
            go_wp2_with fail
            refine (cfull KC10.out).mono ?_
            rintro e w11 ⟨rfl, c12, t11, kc11⟩
            have KG11 := Lib.hid ((CC.over kc11 HCN.out.1).1 (by have := HFU.out; omega))
            clear t11 kc11 KC10 B10 y0 y1 y2 y3 y4 y5 y6 y7 y8 y9 y10 y11 y12 y13 y14
            rw [hdec]
            go_wp2_with fail
            try simp only [V6]
            try simp only [V2]
            try simp only [V3]
            go_loopw [20] (fun av wr => CA w r ar ck tb sh gi sp false j m (m + cn) av wr) (fun av _ => (m + cn - intOf av).toNat)
            case atStart => exact ⟨m, c12, rfl, Lib.hid (by have := HCN.out; omega), KG11⟩
            case round =>
              clear KG11
              obtain ⟨y, c13, rfl, HY, KG12⟩ := hrel
              by_cases hy : y < m + cn
              · have HYL := Lib.hid hy
                go_wp2_with fail
                refine (cshow KG12.out (by have := Hsh.out; omega) (by have := HY.out; have := HMX.out; omega) HYL.out (by have := HCN.out; have := Hm.out; have := HLT.out; omega)).mono ?_
                rintro e w13 ⟨to_, c14, rfl, hto1, hto2, kg13⟩
                have KG13 := Lib.hid kg13
                have HTO := Lib.hid (And.intro hto1 hto2)
                have h1 : decide (to_ ≤ y) = false := by simp; omega
                clear kg13 hto1 hto2 KG12
                go_wp2
                go_roundw
                case rel =>
                  have HN := Lib.hid (show m ≤ to_ ∧ to_ ≤ m + cn by have := HTO.out; have := HY.out; omega)
                  first | exact ⟨to_, c14, rfl, HN, KG13⟩ | ((repeat apply Exists.intro); exact ⟨⟨to_, c14, rfl, HN, KG13⟩, rfl⟩)
                case measure => exact ca_meas HTO.out.1 HYL.out
              · have hye : y = m + cn := by have := HY.out; omega
                subst hye
                clear hy
                have g7 : ¬ (m + cn < m + cn) := Int.lt_irrefl _
                go_wp2
                go_roundw
                case rel => exact ⟨j + 1, m + cn, c13, by first | rfl | rw [W2.out], by first | rfl | rw [W1.out], Lib.hid HLT.out, Lib.hid (by have := Hm.out; have := HCN.out; omega), KG12⟩
                case measure => first | exact cj_meas _ HLT.out | (simp only [W1.out]; exact cj_meas _ HLT.out)
    · have hj3 : j = 3 := by have := Hj.out; omega
      subst hj3
      clear hlt
      go_wp2_with fail
      obtain ⟨la9, d9, ao9, cap9, hb9, st9, rm9, -, sl9, rg9⟩ := HG.out
      have ST9 := Lib.hid st9
      have RM9 := Lib.hid rm9
      have RG9 := Lib.hid rg9
      have SL9 := Lib.hid sl9
      clear hb9 st9 rm9 sl9 rg9 HG
      have W9 := Lib.hid (show wrap64 (nn : Int) = nn from IntWalk.wrap64_in _ (by have := Hnn.out; constructor <;> omega))
      have e9 := W9.out
      obtain ⟨xb, hxb⟩ : ∃ x, x = wr.heap.size := ⟨_, rfl⟩
      obtain ⟨ca, hca, ta⟩ := ((Stp.refl (fun _ => False) c6 wr).alloc (.cells #[.int .i64 nn, .int .i64 3] 80) 1).name
      have RMa := Lib.hid (RM9.out.stpF ta.out)
      have RGa := Lib.hid (RG9.out.stp ta.out id)
      have STa := Lib.hid (ST9.out.trans (ta.out.mono (fun _ h => h.elim)))
      have Xa := Lib.hid (show Blk ca 1 (wr.alloc (.cells #[.int .i64 nn, .int .i64 3] 80)) xb [.int .i64 nn, .int .i64 3] 80 by rw [hca.out, hxb]; exact Blk.new c6 1 wr _ _)
      clear hca ta RM9 RG9 ST9
      go_upto_region 31 with fail
      try simp only [e9]
      rw [← hxb]
      generalize wr.alloc (.cells #[.int .i64 nn, .int .i64 3] 80) = wa at RMa RGa STa Xa ⊢
      clear hxb
      refine Tryz.rrce31 RMa SL9 RGa Xa (fun cb wb _ _ _ _ _ Tb RMb RGb => ?_)
      have STb := Lib.hid (STa.out.trans (Tb.out.mono (fun j hj => by unfold kb at hj; omega)))
      have Xb := Lib.hid (Xa.out.stp Tb.out (by unfold kb; omega))
      clear RMa RGa STa Xa Tb
      go_wp2_with fail
      refine (rslots_c (i := 0) RMb.out rfl).mono ?_
      rintro e wb' ⟨rfl, rfl⟩
      rw [SL9.out]
      go_wp2_with fail
      refine (slget_ok RGb.out (2 ^ sh) (Int.le_of_lt (Int.pow_pos (by decide))) (by have := HB.out; omega)).mono ?_
      rintro e wc ⟨x, hx, rfl, bl⟩
      have hx2 : x = ⟨nn, 3⟩ := by
        have h0 := slot0 (sh := sh) (by have := Hsh.out; omega)
        rw [h0.1, h0.2] at hx
        rw [List.getElem?_set_self (by rw [List.length_replicate]; exact Nat.two_pow_pos sh)] at hx
        exact (Option.some.inj hx).symm
      subst hx2
      obtain ⟨cc, hcc, tc⟩ := (Stp.ofBelow (c := cb) bl 0).name
      have STc := Lib.hid (STb.out.trans (tc.out.mono (fun _ h => h.elim)))
      have Xc := Lib.hid (Xb.out.stp tc.out id)
      clear hcc tc bl hx RMb RGb STb Xb
      obtain ⟨yb, hyb⟩ : ∃ x, x = wc.heap.size := ⟨_, rfl⟩
      obtain ⟨cd, hcd, td⟩ := ((Stp.refl (fun _ => False) cc wc).alloc (.cells #[.int .i64 nn, .int .i64 3] 80) 1).name
      have STd := Lib.hid (STc.out.trans (td.out.mono (fun _ h => h.elim)))
      have Xd := Lib.hid (Xc.out.stp td.out id)
      have Yd := Lib.hid (show Blk cd 1 (wc.alloc (.cells #[.int .i64 nn, .int .i64 3] 80)) yb [.int .i64 nn, .int .i64 3] 80 by rw [hcd.out, hyb]; exact Blk.new cc 1 wc _ _)
      have Td := Lib.hid (Ht.out.stp STd.out (by decide))
      have HCd := Lib.hid (show cd 1 = 0 from STd.out.col _ (World.block_lt_of_cell? w _ (Ht.out 0 (by decide))))
      clear hcd td STc Xc
      go_wp2_with fail
      rw [← hyb]
      generalize wc.alloc (.cells #[.int .i64 nn, .int .i64 3] 80) = wd at STd Xd Yd Td ⊢
      clear hyb
      refine (awake14k 2 (by decide) cd _ Td.out HCd.out).mono ?_
      rintro e we ⟨rfl, ce, se⟩
      have STe := Lib.hid (STd.out.trans se)
      obtain ⟨x0, x1⟩ := ev2 (Xd.out.stp se (by decide))
      obtain ⟨y0, y1⟩ := ev2 (Yd.out.stp se (by decide))
      clear se STd Xd Yd Td HCd
      go_wp2
      go_ret
      exact ⟨by first | rfl | simp, STe.out.fin⟩

set_option maxRecDepth 100000 in
set_option maxHeartbeats 100000000 in
theorem rcells_m (s sh kd nn : Nat) (w : World) (hsh : s % 6 = sh) (hkd : (kd : Int) % 2 = 1) (hnn : nn ≤ 255) (ht : Tab w) :
    Calls Tryz.prog 4 #[.int .u8 s, .int .u8 kd, .int .u8 nn] w fun e w' => e = .returned (.bool true) ∧ Below w.heap.size w w' := by
  have Ht := Lib.hid ht
  have Hnn := Lib.hid hnn
  have Hsh := Lib.hid (show sh < 6 by omega)
  have HB := Lib.hid (two_pow_bd sh (by omega))
  have hw2 := wrap_two_pow sh (by omega)
  have hNN : wrap64 (2 ^ (s % 6)) = 2 ^ sh := by rw [hsh, hw2]
  have hK3 : wrap64 (1 : Int) = 1 := IntWalk.wrap64_in _ (by decide)
  have hN9 := Lib.hid hw2
  have hP5 : (2 : Int) ^ sh ≤ 32 := by
    have h := Hsh.out
    rcases (show sh = 0 ∨ sh = 1 ∨ sh = 2 ∨ sh = 3 ∨ sh = 4 ∨ sh = 5 by omega) with rfl | rfl | rfl | rfl | rfl | rfl <;> decide
  have HP5 := Lib.hid hP5
  clear ht hw2 hsh hnn hP5
  go_enter Tryz.func4, Tryz.ntmps4
  go_wp2_with fail
  refine (rmnew_c (fun _ => 0) 2 w).mono ?_
  rintro e w1 ⟨r, ar, ck, tb, rfl, c1, s1, m1⟩
  have S1 := Lib.hid s1
  have M1 := Lib.hid (RMs.start m1)
  have HC1 := Lib.hid (show c1 1 = 0 from S1.out.col _ (World.block_lt_of_cell? w _ (Ht.out 0 (by decide))))
  clear s1 m1
  go_wp2_with fail
  try simp only [hNN, hkd]
  clear hNN
  refine (rring_m M1.out (by decide) (j := 0) rfl sh (by have := Hsh.out; omega) (by have := HB.out; simp; omega) (Ht.out.stp S1.out (by decide)) HC1.out (Nat.le_refl 2) (n := 2 ^ sh) (by simp)).mono ?_
  rintro e w2 ⟨rfl, g, sp, mp, bp, gp, ao1, cap1, c2, s2, m2, g2⟩
  obtain ⟨la, hla⟩ : ∃ la, la = ([] ++ [-1] ++ [-1] ++ List.replicate (2 ^ sh) (-1) : List Int) := ⟨_, rfl⟩
  rw [← hla] at m2
  obtain ⟨d, hd⟩ : ∃ d, d = (⟨true, sh, g, .pointer (some ⟨sp, 0, none⟩), mp, bp, gp, ([] : List Int).length, ([] : List Int).length + 1, ([] : List Int).length + 2, 0, 0, 0, [], [], none, 0⟩ : RD) := ⟨_, rfl⟩
  have HF := Lib.hid (show d.many = true ∧ d.ids = [] ∧ d.cur = 0 ∧ la.getD 0 0 = -1 ∧ la.length = (2 + 2 ^ sh) ∧ d.sl = .pointer (some ⟨sp, 0, none⟩) ∧ CF sh (2 + 2 ^ sh) 0 0 0 (la ++ [-1]) { d with ids := [(((2 + 2 ^ sh) : Nat) : Int)] } by
    rw [hd, hla]
    exact ⟨rfl, rfl, rfl, rfl, by simp; omega, rfl, CF.start_m _ rfl⟩)
  have M2 := Lib.hid (show RMs c2 2 w2 r ar ck tb la 0 [] [] [d] ao1 cap1 by rw [hd]; exact m2)
  have S2 := Lib.hid (S1.out.trans s2)
  have G2 := Lib.hid (show RingAt c2 (kb 2 0 + 5) w2 sp sh (List.replicate (2 ^ sh) ⟨0, 0⟩) from g2)
  clear s2 m2 g2 hla hd M1 S1 HC1
  go_wp2_with fail
  refine (rmany_c (i := 0) (d := d) M2.out rfl).mono ?_
  rintro e w2' ⟨rfl, rfl⟩
  rw [HF.out.1]
  go_wp2_with fail
  refine (rshown_c (i := 0) (d := d) M2.out rfl).mono ?_
  rintro e w2' ⟨rfl, rfl⟩
  rw [HF.out.1]
  rw [if_pos rfl]
  go_wp2_with fail
  refine (rmarena_c M2.out.rm).mono ?_
  rintro e w2' ⟨rfl, rfl⟩
  go_wp2_with fail
  refine (alloc_s M2.out.rm.aa (-1) (by rw [HF.out.2.2.2.2.1]; have := HB.out; simp; omega)).mono ?_
  rintro e w3 ⟨rfl, c3, t3, a3⟩
  have M3 := Lib.hid (M2.out.arena t3 a3)
  have S3 := Lib.hid (S2.out.trans (t3.mono (fun j hj => by omega)))
  have G3 := Lib.hid (G2.out.stp t3 (by unfold kb; omega))
  rw [HF.out.2.2.2.2.1]
  clear t3 a3 M2 S2 G2
  go_wp2_with fail
  refine (rmarena_c M3.out.rm).mono ?_
  rintro e w3' ⟨rfl, rfl⟩
  go_wp2_with fail
  refine (rcursor_c (i := 0) (d := d) M3.out rfl).mono ?_
  rintro e w3' ⟨rfl, rfl⟩
  rw [HF.out.2.2.1]
  go_wp2_with fail
  refine (load_s M3.out.rm.aa 0 (by simp)).mono ?_
  rintro e w4 ⟨rfl, c4, t4, a4⟩
  have M4 := Lib.hid (M3.out.arena t4 a4)
  have S4 := Lib.hid (S3.out.trans (t4.mono (fun j hj => by omega)))
  have G4 := Lib.hid (G3.out.stp t4 (by unfold kb; omega))
  have hz : (la ++ [-1]).getD 0 0 = -1 := by
    have h1 := HF.out.2.2.2.1
    have h2 := HF.out.2.2.2.2.1
    have hz0 : 0 < la.length := by first | (rw [h2]; exact Nat.add_pos_left (by decide) _) | (rw [h2]; decide)
    simp only [List.getD]
    rw [List.getElem?_append_left hz0]
    simpa [List.getD] using h1
  rw [hz]
  clear t4 a4 M3 S3 G3 hz
  go_wp2_with fail
  refine (rgate_c (i := 0) (d := d) M4.out rfl).mono ?_
  rintro e w4' ⟨rfl, rfl⟩
  go_wp2_with fail
  refine (cadd M4.out (2 + 2 ^ sh) (by have := HB.out; simp; omega) HF.out.2.1).mono ?_
  rintro e w5 ⟨rfl, c5, t5, r5⟩
  have G5 := Lib.hid (show CG (fun _ => 0) w 2 r ar ck tb sh (2 + 2 ^ sh) sp true ((0 : Nat) : Int) 0 0 c5 w5 from ⟨_, { d with ids := [(((2 + 2 ^ sh) : Nat) : Int)] }, ao1, cap1, HF.out.1, S4.out.trans (t5.mono (fun j hj => by unfold kb at hj; omega)), r5, HF.out.2.2.2.2.2.2, HF.out.2.2.2.2.2.1, G4.out.stp t5 (by unfold kb; omega)⟩)
  clear t5 r5 M4 S4 G4 HF
  clear hkd hK3
  generalize (2 + 2 ^ sh) = gi at G5
  go_wp2_with fail
  go_loopw [15, 93] (fun sv iv wr => CR w r ar ck tb sh gi sp true sv iv wr) (fun _ i _ => 3 - (intOf i).toNat)
  case atStart => exact ⟨0, 0, c5, rfl, rfl, Lib.hid (by decide), Lib.hid (by simp), G5⟩
  case round =>
    clear G5
    obtain ⟨j, m, c6, rfl, rfl, Hj, Hm, HG⟩ := hrel
    by_cases hlt : j < 3
    · obtain ⟨cn, hcn⟩ : ∃ cn : Int, cn = (nn : Int) % 2 ^ sh + 1 := ⟨_, rfl⟩
      have hp : (0 : Int) < 2 ^ sh := Int.pow_pos (by decide)
      have hm0 := Int.emod_nonneg (nn : Int) (show (2 : Int) ^ sh ≠ 0 by omega)
      have hm1 := Int.emod_lt_of_pos (nn : Int) hp
      have HCN := Lib.hid (show 1 ≤ cn ∧ cn ≤ 2 ^ sh ∧ cn ≤ 32 by have := HP5.out; omega)
      have F1 : wrap64 (nn : Int) = nn := IntWalk.wrap64_in _ (by have := Hnn.out; constructor <;> omega)
      have F2 : (nn : Int).tmod (2 ^ sh) = (nn : Int) % 2 ^ sh := Int.tmod_eq_emod_of_nonneg (by omega)
      have F3 : ((2 : Int) ^ sh == 0) = false := by simp; omega
      have F4 : wrap64 ((nn : Int) % 2 ^ sh + 1) = cn := by rw [← hcn]; exact IntWalk.wrap64_in _ (by have := HP5.out; constructor <;> omega)
      have F5 : wrap64 ((nn : Int) % 2 ^ sh) = (nn : Int) % 2 ^ sh := IntWalk.wrap64_in _ (by have := HP5.out; constructor <;> omega)
      have HMX := Lib.hid (show 0 ≤ m ∧ m ≤ 1048576 by have := Hm.out; omega)
      have W1 := Lib.hid (show wrap64 ((j : Int) + 1) = ((j + 1 : Nat) : Int) by rw [IntWalk.wrap64_in _ ⟨by omega, by omega⟩]; omega)
      have W2 := Lib.hid (show wrap64 (m + cn) = m + cn from IntWalk.wrap64_in _ (by have := HMX.out; have := HCN.out; constructor <;> omega))
      have W3 := Lib.hid (show wrap64 (m + cn - 1) = m + cn - 1 from IntWalk.wrap64_in _ (by have := HMX.out; have := HCN.out; constructor <;> omega))
      have W6 := Lib.hid (show wrap64 m = m from IntWalk.wrap64_in _ (by have := HMX.out; constructor <;> omega))
      have HLT := Lib.hid hlt
      have g3 : (j : Int) < 3 := by omega
      clear hp hm0 hm1 hlt hcn
      go_wp2_with fail
      clear F1 F2 F3 F5
      try rw [F4]
      clear F4 g3
      refine (cclaim HG.out (Nat.le_refl 2) (by have := Hsh.out; omega) HCN.out.1 HCN.out.2.1 HMX.out.1 HMX.out.2).mono ?_
      rintro e w6 ⟨xv, dn, c7, rfl, kc⟩
      have KC5 := Lib.hid kc
      clear kc HG
      obtain ⟨tb_, htb⟩ : ∃ x, x = w6.heap.size := ⟨_, rfl⟩
      have HXB := Lib.hid (show w.heap.size ≤ tb_ by rw [htb]; exact KC5.out.st.size)
      obtain ⟨c8, hc8, T8⟩ := ((Stp.refl (fun _ => False) c7 w6).alloc (.cells #[.bool xv.b, .pointer xv.p1, .int .i64 xv.a, .slice xv.so xv.sn xv.sc, .int .i64 xv.m, .bool xv.s, .bool xv.d, .bool xv.f, .pointer xv.p2, .int .i64 xv.n, .int .i64 xv.st, .int .i64 xv.cl, .int .i64 xv.hi, .slice xv.o2 xv.n2 xv.c2, .int .i64 xv.mo] 38) 0).name
      have KC7 := Lib.hid (KC5.out.stpF T8.out)
      have B7 := Lib.hid (show Blk c8 0 (w6.alloc (.cells #[.bool xv.b, .pointer xv.p1, .int .i64 xv.a, .slice xv.so xv.sn xv.sc, .int .i64 xv.m, .bool xv.s, .bool xv.d, .bool xv.f, .pointer xv.p2, .int .i64 xv.n, .int .i64 xv.st, .int .i64 xv.cl, .int .i64 xv.hi, .slice xv.o2 xv.n2 xv.c2, .int .i64 xv.mo] 38)) tb_ [.bool xv.b, .pointer xv.p1, .int .i64 xv.a, .slice xv.so xv.sn xv.sc, .int .i64 xv.m, .bool xv.s, .bool xv.d, .bool xv.f, .pointer xv.p2, .int .i64 xv.n, .int .i64 xv.st, .int .i64 xv.cl, .int .i64 xv.hi, .slice xv.o2 xv.n2 xv.c2, .int .i64 xv.mo] 38 by rw [hc8.out, htb]; exact Blk.new c7 0 w6 _ _)
      clear hc8 T8 KC5
      go_wp2_with fail
      rw [← htb]
      clear htb
      go_loopw [18, 19] (fun gv iv wr => CS w r ar ck tb sh gi sp true j m cn tb_ gv iv wr) (fun _ iv _ => 4 - (intOf iv).toNat)
      case atStart => exact ⟨0, xv, dn, c8, rfl, rfl, Lib.hid (by decide), KC7, B7⟩
      case round =>
        clear KC7 B7
        obtain ⟨k9, xu, dn, c9, rfl, rfl, HK4, KC8, B8⟩ := hrel
        obtain ⟨y0, y1, y2, y3, y4, y5, y6, y7, y8, y9, y10, y11, y12, y13, y14⟩ := cells15 B8.out
        have g5 : (k9 : Int) < 20 := by have := HK4.out; omega
        go_wp2_with fail
        refine (cdone KC8.out).mono ?_
        rintro e w8 ⟨rfl, c10, t9, kc9⟩
        have KC9 := Lib.hid kc9
        have B9 := Lib.hid (B8.out.stp t9 id)
        clear t9 kc9 KC8 B8 y0 y1 y2 y3 y4 y5 y6 y7 y8 y9 y10 y11 y12 y13 y14
        rcases dn with _ | _
        · obtain ⟨y0, y1, y2, y3, y4, y5, y6, y7, y8, y9, y10, y11, y12, y13, y14⟩ := cells15 B9.out
          go_wp2_with fail
          refine (cstep KC9.out (Nat.le_refl 2) (by have := Hsh.out; omega) HCN.out.1 HCN.out.2.1 HMX.out.1 HMX.out.2 (by have := HLT.out; omega)).mono ?_
          rintro e w10 ⟨xt, dn, c11, rfl, t10, kc10⟩
          have KC10 := Lib.hid kc10
          have B10 := Lib.hid (B9.out.stp t10 (by decide))
          have NB := Lib.hid (KC10.out.1)
          clear t10 kc10 KC9 B9 y0 y1 y2 y3 y4 y5 y6 y7 y8 y9 y10 y11 y12 y13 y14
          obtain ⟨y0, y1, y2, y3, y4, y5, y6, y7, y8, y9, y10, y11, y12, y13, y14⟩ := cells15 B10.out
          obtain ⟨z0, z1, z2, z3, z4, z5, z6, z7, z8, z9, z10, z11, z12, z13, z14⟩ := frees15 B10.out
          have lb := B10.out.lt
          have T11 := Lib.hid (put15_stp (Stp.refl (· = 0) c11 w10) (.bool xt.b) (.pointer xt.p1) (.int .i64 xt.a) (.slice xt.so xt.sn xt.sc) (.int .i64 xt.m) (.bool xt.s) (.bool xt.d) (.bool xt.f) (.pointer xt.p2) (.int .i64 xt.n) (.int .i64 xt.st) (.int .i64 xt.cl) (.int .i64 xt.hi) (.slice xt.o2 xt.n2 xt.c2) (.int .i64 xt.mo) B10.out.1)
          have B11 := Lib.hid (put15_blk B10.out (.bool xt.b) (.pointer xt.p1) (.int .i64 xt.a) (.slice xt.so xt.sn xt.sc) (.int .i64 xt.m) (.bool xt.s) (.bool xt.d) (.bool xt.f) (.pointer xt.p2) (.int .i64 xt.n) (.int .i64 xt.st) (.int .i64 xt.cl) (.int .i64 xt.hi) (.slice xt.o2 xt.n2 xt.c2) (.int .i64 xt.mo))
          have N11 := Lib.hid (put15_new KC10.out.st (.bool xt.b) (.pointer xt.p1) (.int .i64 xt.a) (.slice xt.so xt.sn xt.sc) (.int .i64 xt.m) (.bool xt.s) (.bool xt.d) (.bool xt.f) (.pointer xt.p2) (.int .i64 xt.n) (.int .i64 xt.st) (.int .i64 xt.cl) (.int .i64 xt.hi) (.slice xt.o2 xt.n2 xt.c2) (.int .i64 xt.mo) HXB.out)
          have KC11 := Lib.hid (KC10.out.stp0 T11.out (by decide) N11.out)
          have W5 := Lib.hid (show wrap64 ((k9 : Int) + 1) = ((k9 + 1 : Nat) : Int) by rw [IntWalk.wrap64_in _ ⟨by omega, by omega⟩]; omega)
          have g6 := Lib.hid g5
          clear KC10 B10 T11 N11
          go_wp2
          go_roundw
          case rel => exact ⟨k9 + 1, xt, dn, c11, rfl, by first | rfl | rw [W5.out], NB, KC11, B11⟩
          case measure => first | exact ck_meas _ NB.out | (simp only [W5.out]; exact ck_meas _ NB.out)
        · obtain ⟨y0, y1, y2, y3, y4, y5, y6, y7, y8, y9, y10, y11, y12, y13, y14⟩ := cells15 B9.out
          have V2 := W2.out
          have V3 := W3.out
          have V6 := W6.out
          by_cases hfull : (2 : Int) ^ sh < m + cn
          · have hdec : decide ((2 : Int) ^ sh < m + cn) = true := decide_eq_true hfull
            have HFU := Lib.hid hfull
            go_wp2_with fail
            refine (cfull KC9.out).mono ?_
            rintro e w10 ⟨rfl, c11, t10, kc10⟩
            have KC10 := Lib.hid kc10
            have B10 := Lib.hid (B9.out.stp t10 id)
            clear t10 kc10 KC9 B9 y0 y1 y2 y3 y4 y5 y6 y7 y8 y9 y10 y11 y12 y13 y14
            rw [hdec]
            obtain ⟨y0, y1, y2, y3, y4, y5, y6, y7, y8, y9, y10, y11, y12, y13, y14⟩ := cells15 B10.out
            go_wp2_with fail
            refine (cfull KC10.out).mono ?_
            rintro e w11 ⟨rfl, c12, t11, kc11⟩
            have HG := Lib.hid ((CC.over kc11 HCN.out.1).2 HFU.out)
            clear t11 kc11 KC10 B10 y0 y1 y2 y3 y4 y5 y6 y7 y8 y9 y10 y11 y12 y13 y14
            rw [hdec]
            go_wp2_with fail
            obtain ⟨la9, d9, ao9, cap9, hb9, st9, rm9, -, sl9, rg9⟩ := HG.out
            have ST9 := Lib.hid st9
            have RM9 := Lib.hid rm9
            have RG9 := Lib.hid rg9
            have SL9 := Lib.hid sl9
            clear hb9 st9 rm9 sl9 rg9 HG
            have W9 := Lib.hid (show wrap64 (nn : Int) = nn from IntWalk.wrap64_in _ (by have := Hnn.out; constructor <;> omega))
            have e9 := W9.out
            obtain ⟨xb, hxb⟩ : ∃ x, x = w11.heap.size := ⟨_, rfl⟩
            obtain ⟨ca, hca, ta⟩ := ((Stp.refl (fun _ => False) c12 w11).alloc (.cells #[.int .i64 nn, .int .i64 3] 80) 1).name
            have RMa := Lib.hid (RM9.out.stpF ta.out)
            have RGa := Lib.hid (RG9.out.stp ta.out id)
            have STa := Lib.hid (ST9.out.trans (ta.out.mono (fun _ h => h.elim)))
            have Xa := Lib.hid (show Blk ca 1 (w11.alloc (.cells #[.int .i64 nn, .int .i64 3] 80)) xb [.int .i64 nn, .int .i64 3] 80 by rw [hca.out, hxb]; exact Blk.new c12 1 w11 _ _)
            clear hca ta RM9 RG9 ST9
            go_upto_region 31 with fail
            try simp only [e9]
            rw [← hxb]
            generalize w11.alloc (.cells #[.int .i64 nn, .int .i64 3] 80) = wa at RMa RGa STa Xa ⊢
            clear hxb
            refine Tryz.rrce31 RMa SL9 RGa Xa (fun cb wb _ _ _ _ _ Tb RMb RGb => ?_)
            have STb := Lib.hid (STa.out.trans (Tb.out.mono (fun j hj => by unfold kb at hj; omega)))
            have Xb := Lib.hid (Xa.out.stp Tb.out (by unfold kb; omega))
            clear RMa RGa STa Xa Tb
            go_wp2_with fail
            refine (rslots_c (i := 0) RMb.out rfl).mono ?_
            rintro e wb' ⟨rfl, rfl⟩
            rw [SL9.out]
            go_wp2_with fail
            refine (slget_ok RGb.out (2 ^ sh) (Int.le_of_lt (Int.pow_pos (by decide))) (by have := HB.out; omega)).mono ?_
            rintro e wc ⟨x, hx, rfl, bl⟩
            have hx2 : x = ⟨nn, 3⟩ := by
              have h0 := slot0 (sh := sh) (by have := Hsh.out; omega)
              rw [h0.1, h0.2] at hx
              rw [List.getElem?_set_self (by rw [List.length_replicate]; exact Nat.two_pow_pos sh)] at hx
              exact (Option.some.inj hx).symm
            subst hx2
            obtain ⟨cc, hcc, tc⟩ := (Stp.ofBelow (c := cb) bl 0).name
            have STc := Lib.hid (STb.out.trans (tc.out.mono (fun _ h => h.elim)))
            have Xc := Lib.hid (Xb.out.stp tc.out id)
            clear hcc tc bl hx RMb RGb STb Xb
            obtain ⟨yb, hyb⟩ : ∃ x, x = wc.heap.size := ⟨_, rfl⟩
            obtain ⟨cd, hcd, td⟩ := ((Stp.refl (fun _ => False) cc wc).alloc (.cells #[.int .i64 nn, .int .i64 3] 80) 1).name
            have STd := Lib.hid (STc.out.trans (td.out.mono (fun _ h => h.elim)))
            have Xd := Lib.hid (Xc.out.stp td.out id)
            have Yd := Lib.hid (show Blk cd 1 (wc.alloc (.cells #[.int .i64 nn, .int .i64 3] 80)) yb [.int .i64 nn, .int .i64 3] 80 by rw [hcd.out, hyb]; exact Blk.new cc 1 wc _ _)
            have Td := Lib.hid (Ht.out.stp STd.out (by decide))
            have HCd := Lib.hid (show cd 1 = 0 from STd.out.col _ (World.block_lt_of_cell? w _ (Ht.out 0 (by decide))))
            clear hcd td STc Xc
            go_wp2_with fail
            rw [← hyb]
            generalize wc.alloc (.cells #[.int .i64 nn, .int .i64 3] 80) = wd at STd Xd Yd Td ⊢
            clear hyb
            refine (awake14k 2 (by decide) cd _ Td.out HCd.out).mono ?_
            rintro e we ⟨rfl, ce, se⟩
            have STe := Lib.hid (STd.out.trans se)
            obtain ⟨x0, x1⟩ := ev2 (Xd.out.stp se (by decide))
            obtain ⟨y0, y1⟩ := ev2 (Yd.out.stp se (by decide))
            clear se STd Xd Yd Td HCd
            go_wp2
            go_ret
            exact ⟨by first | rfl | simp, STe.out.fin⟩
          · have hdec : decide ((2 : Int) ^ sh < m + cn) = false := decide_eq_false hfull
            have HFU := Lib.hid hfull
            go_wp2_with fail
            refine (cfull KC9.out).mono ?_
            rintro e w10 ⟨rfl, c11, t10, kc10⟩
            have KC10 := Lib.hid kc10
            have B10 := Lib.hid (B9.out.stp t10 id)
            clear t10 kc10 KC9 B9 y0 y1 y2 y3 y4 y5 y6 y7 y8 y9 y10 y11 y12 y13 y14
            rw [hdec]
            obtain ⟨y0, y1, y2, y3, y4, y5, y6, y7, y8, y9, y10, y11, y12, y13, y14⟩ := cells15 B10.out
            go_wp2_with fail
            refine (cfull KC10.out).mono ?_
            rintro e w11 ⟨rfl, c12, t11, kc11⟩
            have KG11 := Lib.hid ((CC.over kc11 HCN.out.1).1 (by have := HFU.out; omega))
            clear t11 kc11 KC10 B10 y0 y1 y2 y3 y4 y5 y6 y7 y8 y9 y10 y11 y12 y13 y14
            rw [hdec]
            go_wp2_with fail
            try simp only [V6]
            try simp only [V2]
            try simp only [V3]
            go_loopw [20] (fun av wr => CA w r ar ck tb sh gi sp true j m (m + cn) av wr) (fun av _ => (m + cn - intOf av).toNat)
            case atStart => exact ⟨m, c12, rfl, Lib.hid (by have := HCN.out; omega), KG11⟩
            case round =>
              clear KG11
              obtain ⟨y, c13, rfl, HY, KG12⟩ := hrel
              by_cases hy : y < m + cn
              · have HYL := Lib.hid hy
                go_wp2_with fail
                refine (cshow KG12.out (by have := Hsh.out; omega) (by have := HY.out; have := HMX.out; omega) HYL.out (by have := HCN.out; have := Hm.out; have := HLT.out; omega)).mono ?_
                rintro e w13 ⟨to_, c14, rfl, hto1, hto2, kg13⟩
                have KG13 := Lib.hid kg13
                have HTO := Lib.hid (And.intro hto1 hto2)
                have h1 : decide (to_ ≤ y) = false := by simp; omega
                clear kg13 hto1 hto2 KG12
                go_wp2
                go_roundw
                case rel =>
                  have HN := Lib.hid (show m ≤ to_ ∧ to_ ≤ m + cn by have := HTO.out; have := HY.out; omega)
                  first | exact ⟨to_, c14, rfl, HN, KG13⟩ | ((repeat apply Exists.intro); exact ⟨⟨to_, c14, rfl, HN, KG13⟩, rfl⟩)
                case measure => exact ca_meas HTO.out.1 HYL.out
              · have hye : y = m + cn := by have := HY.out; omega
                subst hye
                clear hy
                have g7 : ¬ (m + cn < m + cn) := Int.lt_irrefl _
                go_wp2
                go_roundw
                case rel => exact ⟨j + 1, m + cn, c13, by first | rfl | rw [W2.out], by first | rfl | rw [W1.out], Lib.hid HLT.out, Lib.hid (by have := Hm.out; have := HCN.out; omega), KG12⟩
                case measure => first | exact cj_meas _ HLT.out | (simp only [W1.out]; exact cj_meas _ HLT.out)
    · have hj3 : j = 3 := by have := Hj.out; omega
      subst hj3
      clear hlt
      go_wp2_with fail
      obtain ⟨la9, d9, ao9, cap9, hb9, st9, rm9, -, sl9, rg9⟩ := HG.out
      have ST9 := Lib.hid st9
      have RM9 := Lib.hid rm9
      have RG9 := Lib.hid rg9
      have SL9 := Lib.hid sl9
      clear hb9 st9 rm9 sl9 rg9 HG
      have W9 := Lib.hid (show wrap64 (nn : Int) = nn from IntWalk.wrap64_in _ (by have := Hnn.out; constructor <;> omega))
      have e9 := W9.out
      obtain ⟨xb, hxb⟩ : ∃ x, x = wr.heap.size := ⟨_, rfl⟩
      obtain ⟨ca, hca, ta⟩ := ((Stp.refl (fun _ => False) c6 wr).alloc (.cells #[.int .i64 nn, .int .i64 3] 80) 1).name
      have RMa := Lib.hid (RM9.out.stpF ta.out)
      have RGa := Lib.hid (RG9.out.stp ta.out id)
      have STa := Lib.hid (ST9.out.trans (ta.out.mono (fun _ h => h.elim)))
      have Xa := Lib.hid (show Blk ca 1 (wr.alloc (.cells #[.int .i64 nn, .int .i64 3] 80)) xb [.int .i64 nn, .int .i64 3] 80 by rw [hca.out, hxb]; exact Blk.new c6 1 wr _ _)
      clear hca ta RM9 RG9 ST9
      go_upto_region 31 with fail
      try simp only [e9]
      rw [← hxb]
      generalize wr.alloc (.cells #[.int .i64 nn, .int .i64 3] 80) = wa at RMa RGa STa Xa ⊢
      clear hxb
      refine Tryz.rrce31 RMa SL9 RGa Xa (fun cb wb _ _ _ _ _ Tb RMb RGb => ?_)
      have STb := Lib.hid (STa.out.trans (Tb.out.mono (fun j hj => by unfold kb at hj; omega)))
      have Xb := Lib.hid (Xa.out.stp Tb.out (by unfold kb; omega))
      clear RMa RGa STa Xa Tb
      go_wp2_with fail
      refine (rslots_c (i := 0) RMb.out rfl).mono ?_
      rintro e wb' ⟨rfl, rfl⟩
      rw [SL9.out]
      go_wp2_with fail
      refine (slget_ok RGb.out (2 ^ sh) (Int.le_of_lt (Int.pow_pos (by decide))) (by have := HB.out; omega)).mono ?_
      rintro e wc ⟨x, hx, rfl, bl⟩
      have hx2 : x = ⟨nn, 3⟩ := by
        have h0 := slot0 (sh := sh) (by have := Hsh.out; omega)
        rw [h0.1, h0.2] at hx
        rw [List.getElem?_set_self (by rw [List.length_replicate]; exact Nat.two_pow_pos sh)] at hx
        exact (Option.some.inj hx).symm
      subst hx2
      obtain ⟨cc, hcc, tc⟩ := (Stp.ofBelow (c := cb) bl 0).name
      have STc := Lib.hid (STb.out.trans (tc.out.mono (fun _ h => h.elim)))
      have Xc := Lib.hid (Xb.out.stp tc.out id)
      clear hcc tc bl hx RMb RGb STb Xb
      obtain ⟨yb, hyb⟩ : ∃ x, x = wc.heap.size := ⟨_, rfl⟩
      obtain ⟨cd, hcd, td⟩ := ((Stp.refl (fun _ => False) cc wc).alloc (.cells #[.int .i64 nn, .int .i64 3] 80) 1).name
      have STd := Lib.hid (STc.out.trans (td.out.mono (fun _ h => h.elim)))
      have Xd := Lib.hid (Xc.out.stp td.out id)
      have Yd := Lib.hid (show Blk cd 1 (wc.alloc (.cells #[.int .i64 nn, .int .i64 3] 80)) yb [.int .i64 nn, .int .i64 3] 80 by rw [hcd.out, hyb]; exact Blk.new cc 1 wc _ _)
      have Td := Lib.hid (Ht.out.stp STd.out (by decide))
      have HCd := Lib.hid (show cd 1 = 0 from STd.out.col _ (World.block_lt_of_cell? w _ (Ht.out 0 (by decide))))
      clear hcd td STc Xc
      go_wp2_with fail
      rw [← hyb]
      generalize wc.alloc (.cells #[.int .i64 nn, .int .i64 3] 80) = wd at STd Xd Yd Td ⊢
      clear hyb
      refine (awake14k 2 (by decide) cd _ Td.out HCd.out).mono ?_
      rintro e we ⟨rfl, ce, se⟩
      have STe := Lib.hid (STd.out.trans se)
      obtain ⟨x0, x1⟩ := ev2 (Xd.out.stp se (by decide))
      obtain ⟨y0, y1⟩ := ev2 (Yd.out.stp se (by decide))
      clear se STd Xd Yd Td HCd
      go_wp2
      go_ret
      exact ⟨by first | rfl | simp, STe.out.fin⟩

theorem rcells_walk (s kd nn : Int) (w : World) (h0 : 0 ≤ s ∧ s ≤ 255) (h1 : 0 ≤ kd ∧ kd ≤ 255) (h2 : 0 ≤ nn ∧ nn ≤ 255) (ht : Tab w) :
    Calls Tryz.prog 4 #[.int .u8 s, .int .u8 kd, .int .u8 nn] w fun e w' => e = .returned (.bool true) ∧ Below w.heap.size w w' := by
  obtain ⟨s, rfl⟩ := Int.eq_ofNat_of_zero_le h0.1
  obtain ⟨kd, rfl⟩ := Int.eq_ofNat_of_zero_le h1.1
  obtain ⟨nn, rfl⟩ := Int.eq_ofNat_of_zero_le h2.1
  rcases (show (kd : Int) % 2 = 0 ∨ (kd : Int) % 2 = 1 by omega) with h | h
  · exact rcells_s s (s % 6) kd nn w rfl h (by omega) ht
  · exact rcells_m s (s % 6) kd nn w rfl h (by omega) ht
end Go.Proofs.YtiphdedfbafhkaaGreatDoor
