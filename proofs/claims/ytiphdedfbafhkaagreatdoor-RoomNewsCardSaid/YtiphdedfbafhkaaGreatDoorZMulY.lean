/- Contracts that the closing theorem wants (MulY). No condition beyond each law's own. -/
import Derived.Test.YtiphdedfbafhkaaGreatDoorZMul4
import Derived.Test.YtiphdedfbafhkaaGreatDoorZMul5
import Derived.Test.YtiphdedfbafhkaaGreatDoorZMul5b
namespace Go.Proofs.YtiphdedfbafhkaaGreatDoor
open Go.RowKit

section
variable {c : Nat → Nat} {K : Nat} {w : World} {p q bp gp : Nat} {S : Sq} {la : List Int}
set_option maxRecDepth 100000 in
theorem mtry_ok {k : Nat} (hB : SeqIs c k w p q bp gp S) (n : Int) (h1 : 1 ≤ n) (h2 : n ≤ 2 ^ S.sh) :
    Calls Tryz.prog 57 #[.pointer (some ⟨p, 0, none⟩), .int .i64 n] w fun e w' => e = .returned (.tuple #[.agg #[.pointer (some ⟨p, 0, none⟩), .int .i64 n, .int .i64 0, .int .i64 0, .int .i64 0, .slice none 0 0, .int .i64 0], .nilIface]) ∧ ∃ c', Stp (fun _ => False) c c' w w' := by
  have Hsh := Lib.hid hB.bf.1
  obtain ⟨s0, s1, s2, s3, s4, s5, lp⟩ := hB.cs
  have t1 : decide (n < 1) = false := by simp; omega
  have t2 : decide ((2 : Int) ^ S.sh < n) = false := by simp; omega
  have T := Lib.hid (((Stp.refl (fun _ => False) c w).alloc (.cells #[.pointer (some ⟨p, 0, none⟩), .int .i64 n, .int .i64 0, .int .i64 0, .int .i64 0, .slice none 0 0, .int .i64 0] 36) 0).alloc (.cells #[.int .i64 S.sh] 65) 0)
  clear hB h1 h2
  go_enter Tryz.func57, Tryz.ntmps57
  go_wp2_with (go_at_call 30; refine (slots_k S.sh Hsh.out _).mono ?_; rintro e w' ⟨rfl, rfl⟩)
  exact bodyPost_ret (v := .tuple #[.agg #[.pointer (some ⟨p, 0, none⟩), .int .i64 n, .int .i64 0, .int .i64 0, .int .i64 0, .slice none 0 0, .int .i64 0], .nilIface]) (by simp [results, Tryz.results57, go_sem]) rfl ⟨rfl, _, T.out⟩

set_option maxRecDepth 100000 in
theorem mtry_low {k : Nat} (_hB : SeqIs c k w p q bp gp S) (n : Int) (h1 : n < 1) :
    Calls Tryz.prog 57 #[.pointer (some ⟨p, 0, none⟩), .int .i64 n] w fun e w' => ∃ et ev, e = .returned (.tuple #[.agg #[.pointer none, .int .i64 0, .int .i64 0, .int .i64 0, .int .i64 0, .slice none 0 0, .int .i64 0], .iface et ev]) ∧ ∃ c', Stp (fun _ => False) c c' w w' ∧ ErrAt c' w' (.iface et ev) 1 := by
  have t1 : decide (n < 1) = true := by simpa using h1
  obtain ⟨c1, hc1, T⟩ := ((Stp.refl (fun _ => False) c w).alloc (.cells #[.pointer none, .int .i64 0, .int .i64 0, .int .i64 0, .int .i64 0, .slice none 0 0, .int .i64 0] 36) 0).name
  have T2 := Lib.hid (T.out.alloc (.cells #[.string ⟨#[99, 108, 97, 105, 109]⟩, .int .i64 n, .iface 98 (.int .i64 1)] 181) 1)
  have E2 := Lib.hid (ErrAt.new c1 (w.alloc (.cells #[.pointer none, .int .i64 0, .int .i64 0, .int .i64 0, .int .i64 0, .slice none 0 0, .int .i64 0] 36)) ⟨#[99, 108, 97, 105, 109]⟩ n 1)
  clear h1 hc1 T
  go_enter Tryz.func57, Tryz.ntmps57
  go_wp2_with (go_at_call 50; refine (wrap_some _ _ _ _ _).mono ?_; rintro e w' ⟨rfl, rfl⟩)
  exact bodyPost_ret (v := .tuple #[.agg #[.pointer none, .int .i64 0, .int .i64 0, .int .i64 0, .int .i64 0, .slice none 0 0, .int .i64 0], .iface 179 (.pointer (some ⟨(w.alloc (.cells #[.pointer none, .int .i64 0, .int .i64 0, .int .i64 0, .int .i64 0, .slice none 0 0, .int .i64 0] 36)).heap.size, 0, none⟩))]) (by simp [results, Tryz.results57, go_sem]) rfl ⟨_, _, rfl, _, T2.out, E2.out⟩

set_option maxRecDepth 100000 in
theorem mtry_high {k : Nat} (hB : SeqIs c k w p q bp gp S) (n : Int) (h1 : 1 ≤ n) (h2 : 2 ^ S.sh < n) :
    Calls Tryz.prog 57 #[.pointer (some ⟨p, 0, none⟩), .int .i64 n] w fun e w' => ∃ et ev, e = .returned (.tuple #[.agg #[.pointer none, .int .i64 0, .int .i64 0, .int .i64 0, .int .i64 0, .slice none 0 0, .int .i64 0], .iface et ev]) ∧ ∃ c', Stp (fun _ => False) c c' w w' ∧ ErrAt c' w' (.iface et ev) 1 := by
  have Hsh := Lib.hid hB.bf.1
  obtain ⟨s0, s1, s2, s3, s4, s5, lp⟩ := hB.cs
  have t1 : decide (n < 1) = false := by simp; omega
  have t2 : decide ((2 : Int) ^ S.sh < n) = true := by simpa using h2
  obtain ⟨c1, hc1, T⟩ := (((Stp.refl (fun _ => False) c w).alloc (.cells #[.pointer none, .int .i64 0, .int .i64 0, .int .i64 0, .int .i64 0, .slice none 0 0, .int .i64 0] 36) 0).alloc (.cells #[.int .i64 S.sh] 65) 0).name
  have T2 := Lib.hid (T.out.alloc (.cells #[.string ⟨#[99, 108, 97, 105, 109]⟩, .int .i64 n, .iface 98 (.int .i64 1)] 181) 1)
  have E2 := Lib.hid (ErrAt.new c1 ((w.alloc (.cells #[.pointer none, .int .i64 0, .int .i64 0, .int .i64 0, .int .i64 0, .slice none 0 0, .int .i64 0] 36)).alloc (.cells #[.int .i64 S.sh] 65)) ⟨#[99, 108, 97, 105, 109]⟩ n 1)
  clear hB h1 h2 hc1 T
  go_enter Tryz.func57, Tryz.ntmps57
  go_wp2_with (first
    | (go_at_call 30; refine (slots_k S.sh Hsh.out _).mono ?_; rintro e w' ⟨rfl, rfl⟩)
    | (go_at_call 50; refine (wrap_some _ _ _ _ _).mono ?_; rintro e w' ⟨rfl, rfl⟩))
  exact bodyPost_ret (v := .tuple #[.agg #[.pointer none, .int .i64 0, .int .i64 0, .int .i64 0, .int .i64 0, .slice none 0 0, .int .i64 0], .iface 179 (.pointer (some ⟨((w.alloc (.cells #[.pointer none, .int .i64 0, .int .i64 0, .int .i64 0, .int .i64 0, .slice none 0 0, .int .i64 0] 36)).alloc (.cells #[.int .i64 S.sh] 65)).heap.size, 0, none⟩))]) (by simp [results, Tryz.results57, go_sem]) rfl ⟨_, _, rfl, _, T2.out, E2.out⟩

theorem mtry_bad {k : Nat} (hB : SeqIs c k w p q bp gp S) (n : Int) (h : n < 1 ∨ 2 ^ S.sh < n) :
    Calls Tryz.prog 57 #[.pointer (some ⟨p, 0, none⟩), .int .i64 n] w fun e w' => ∃ et ev, e = .returned (.tuple #[.agg #[.pointer none, .int .i64 0, .int .i64 0, .int .i64 0, .int .i64 0, .slice none 0 0, .int .i64 0], .iface et ev]) ∧ ∃ c', Stp (fun _ => False) c c' w w' ∧ ErrAt c' w' (.iface et ev) 1 := by
  by_cases h1 : n < 1
  · exact mtry_low hB n h1
  · exact mtry_high hB n (by omega) (by omega)
end

/-- Claim, part of the way. -/
structure QAt (c0 : Nat → Nat) (w0 : World) (K p q bp gp : Nat) (S : Sq) (la : List Int) (z : Nat) (cs : List Value) (ao : Option Addr) (m cap : Nat) (ids : List Int) (c : Nat → Nat) (w : World) : Prop where
  st : Stp (· = K) c0 c w0 w
  ar : ArenaS c K w q la
  sq : SeqIs c (K + 1) w p q bp gp S
  bx : Blk c (K + 6) w z cs 36
  sc : In c (K + 4) w 1 ao m cap (ids.map (Value.int .i64))
  nz : w0.heap.size ≤ z

section
variable {c0 : Nat → Nat} {w0 : World} {K p q bp gp : Nat} {S : Sq} {la la' : List Int} {z : Nat} {cs : List Value} {ao ao' : Option Addr} {m m' cap cap' : Nat} {ids ids' : List Int} {c c' : Nat → Nat} {w w' : World}
end

def QRel (c0 : Nat → Nat) (w0 : World) (K p q bp gp : Nat) (S : Sq) (la : List Int) (z : Nat) (n v : Int) (gh : Nat) (ev : Value) (wr : World) : Prop :=
  ev = .nilIface ∧ ∃ (c : Nat → Nat) (ao : Option Addr) (m cap : Nat) (ids : List Int) (most : Int),
    (gh = 3 ∧ Hid (QAt c0 w0 K p q bp gp S la z [.pointer (some ⟨p, 0, none⟩), .int .i64 n, .int .i64 0, .int .i64 0, .int .i64 0, .slice none 0 0, .int .i64 0] ao m cap ids c wr) ∧ ao = none ∧ m = 0 ∧ cap = 0) ∨
    (gh = 2 ∧ Hid (QAt c0 w0 K p q bp gp S la z [.pointer (some ⟨p, 0, none⟩), .int .i64 n, .int .i64 1, .int .i64 v, .int .i64 (v + n), .slice ao m cap, .int .i64 most] ao m cap ids c wr)) ∨
    (gh = 1 ∧ Hid (QAt c0 w0 K p q bp gp S la z [.pointer (some ⟨p, 0, none⟩), .int .i64 n, .int .i64 4, .int .i64 v, .int .i64 (v + n), .slice ao m cap, .int .i64 most] ao m cap ids c wr)) ∨
    (gh = 0 ∧ Hid (QAt c0 w0 K p q bp gp S (la.set S.cur (v + n)) z [.pointer (some ⟨p, 0, none⟩), .int .i64 n, .int .i64 5, .int .i64 v, .int .i64 (v + n), .slice ao m cap, .int .i64 most] ao m cap ids c wr))

end Go.Proofs.YtiphdedfbafhkaaGreatDoor

namespace Go.Proofs.YtiphdedfbafhkaaGreatDoor
open Go.RowKit

/-- New, part of the way. -/
structure NAt (c0 : Nat → Nat) (w0 : World) (K q z gp p sh : Nat) (la : List Int) (s : Int) (cs : List Value) (c : Nat → Nat) (w : World) : Prop where
  st : Stp (· = K) c0 c w0 w
  ar : ArenaAt c K w q la s
  zb : Blk c (K + 5) w z [.int .i64 sh] 65
  gb : Blk c (K + 3) w gp [.slice none 0 0] 137
  pb : Blk c (K + 1) w p cs 187
  np : w0.heap.size ≤ p

section
variable {c0 : Nat → Nat} {w0 : World} {K q z gp p sh : Nat} {la la' : List Int} {s s' : Int} {cs : List Value} {c c' : Nat → Nat} {w w' : World}
theorem NAt.are (h : NAt c0 w0 K q z gp p sh la s cs c w) (t : Stp (· = K) c c' w w') (a : ArenaAt c' K w' q la' s') : NAt c0 w0 K q z gp p sh la' s' cs c' w' :=
  ⟨h.st.trans t, a, h.zb.stp t (by omega), h.gb.stp t (by omega), h.pb.stp t (by omega), h.np⟩
theorem NAt.put (h : NAt c0 w0 K q z gp p sh la s cs c w) (j : Nat) (v : Value) : NAt c0 w0 K q z gp p sh la s (cs.set j v) c (w.setCell ⟨p, j, none⟩ v) := by
  have t := (Stp.refl (· = K + 1) c w).setCell (p := ⟨p, j, none⟩) v h.pb.1
  exact ⟨h.st.setNew (p := ⟨p, j, none⟩) _ h.np, h.ar.stp t (by omega), h.zb.stp t (by omega), h.gb.stp t (by omega), h.pb.set j v, h.np⟩
theorem NAt.xs (h : NAt c0 w0 K q z gp p sh la s cs c w) {v0 v1 v2 v3 v4 v5 : Value} (e : cs = [v0, v1, v2, v3, v4, v5]) : w.cell? ⟨z, 0, none⟩ = some (.int .i64 sh) ∧ w.cell? ⟨p, 2, none⟩ = some v2 ∧ w.cell? ⟨p, 3, none⟩ = some v3 ∧ w.cell? ⟨p, 4, none⟩ = some v4 ∧ w.frozen? ⟨p, 2, none⟩ = false ∧ w.frozen? ⟨p, 3, none⟩ = false ∧ w.frozen? ⟨p, 4, none⟩ = false ∧ p < w.heap.size ∧ z < w.heap.size := by
  subst e
  exact ⟨by simpa using h.zb.cell 0, by simpa using h.pb.cell 2, by simpa using h.pb.cell 3, by simpa using h.pb.cell 4, h.pb.free 2, h.pb.free 3, h.pb.free 4, h.pb.lt, h.zb.lt⟩
end

theorem mn_w1 {sh : Nat} (h : sh < 21) : wrap64 ((2 : Int) ^ sh + 2) = 2 ^ sh + 2 := IntWalk.wrap64_in _ (by have := two_pow_bd sh h; constructor <;> omega)
theorem mn_w2 {n : Nat} (h : (n : Int) ≤ 2097152) : wrap64 (2097152 - (n : Int)) = 2097152 - n := IntWalk.wrap64_in _ (by constructor <;> omega)

section
variable {c : Nat → Nat} {K : Nat} {w : World} {p q bp gp : Nat} {S : Sq} {la : List Int} {s : Int}
set_option maxRecDepth 100000 in
set_option maxHeartbeats 1000000 in
theorem mnew_ok (ha : ArenaAt c K w q la s) (sh : Nat) (hsh : sh < 21) (hl : (la.length : Int) + 2 + 2 ^ sh ≤ 2097152) (ht : Tab w) {m : Int} (hm : m = 2 ^ sh) :
    Calls Tryz.prog 53 #[.pointer (some ⟨q, 0, none⟩), .int .i64 m] w fun e w' => ∃ p bp gp, e = .returned (.tuple #[.pointer (some ⟨p, 0, none⟩), .nilIface]) ∧ ∃ c', Stp (· = K) c c' w w' ∧ ArenaAt c' K w' q (la ++ [-1] ++ [-1] ++ List.replicate (2 ^ sh) (-1)) s ∧ SeqIs c' (K + 1) w' p q bp gp ⟨sh, la.length, la.length + 1, la.length + 2, []⟩ := by
  subst hm
  have HA := Lib.hid ha
  have Hl := Lib.hid hl
  have Ht := Lib.hid ht
  have Hsh := Lib.hid hsh
  have hb := two_pow_bd sh hsh
  have t1 : decide (2097152 - (la.length : Int) < 2 ^ sh + 2) = false := by simp; omega
  have F1 := Lib.hid (mn_w1 hsh)
  have F2 := Lib.hid (mn_w2 (n := la.length) (by omega))
  have G1 := Lib.hid (show (la.length : Int) < 2097152 by omega)
  have G2 := Lib.hid (show ((la ++ [-1]).length : Int) < 2097152 by simp; omega)
  have G3 := Lib.hid (show ((la ++ [-1] ++ [-1]).length : Int) + 2 ^ sh ≤ 2097152 by simp; omega)
  clear ha hl ht hsh hb
  go_enter Tryz.func53, Tryz.ntmps53
  go_wp2_with fail
  refine (of_pow c sh Hsh.out w Ht.out).mono ?_
  rintro e w1 ⟨rfl, c1, t2⟩
  obtain ⟨z, hz⟩ : ∃ z, z = w1.heap.size := ⟨_, rfl⟩
  obtain ⟨c2, hc2, T2⟩ := (t2.alloc (.cells #[.int .i64 sh] 65) (K + 5)).name
  have Z2 := Lib.hid (show Blk c2 (K + 5) (w1.alloc (.cells #[.int .i64 sh] 65)) z [.int .i64 sh] 65 by rw [hc2.out, hz]; exact Blk.new c1 (K + 5) w1 [.int .i64 sh] _)
  have A2 := Lib.hid (HA.out.stp T2.out id)
  clear t2 hc2
  go_wp2_with fail
  rw [← hz]
  clear hz
  refine (slots_k sh Hsh.out _).mono ?_
  rintro e w3 ⟨rfl, hw3⟩
  obtain ⟨c3, -, T3⟩ := ((Stp.refl (fun _ => False) c2 (w1.alloc (.cells #[.int .i64 sh] 65))).alloc (.cells #[.int .i64 sh] 65) 0).name
  rw [hw3] at T3
  have A3 := Lib.hid (A2.out.stp T3.out id)
  have Z3 := Lib.hid (Z2.out.stp T3.out id)
  have S3 := Lib.hid (T2.out.trans T3.out)
  clear hw3 T3 T2 A2 Z2
  go_wp2_with fail
  refine (len_any A3.out).mono ?_
  rintro e w4 ⟨rfl, rfl⟩
  have E1 := F1.out
  have E2 := F2.out
  have z0 := Z3.out.cell 0
  have zl := Z3.out.lt
  simp at z0
  obtain ⟨c4, hc4, T4⟩ := ((Stp.refl (fun _ => False) c3 w3).alloc (.cells #[.slice none 0 0] 137) (K + 3)).name
  obtain ⟨c5, hc5, T5⟩ := ((Stp.refl (fun _ => False) c4 (w3.alloc (.cells #[.slice none 0 0] 137))).alloc (.cells #[.pointer (some ⟨q, 0, none⟩), .int .i64 sh, .int .i64 0, .int .i64 0, .pointer none, .pointer (some ⟨w3.heap.size, 0, none⟩)] 187) (K + 1)).name
  have gb4 : Blk c4 (K + 3) (w3.alloc (.cells #[.slice none 0 0] 137)) w3.heap.size [.slice none 0 0] 137 := by rw [hc4.out]; exact Blk.new c3 (K + 3) w3 [.slice none 0 0] _
  have pb5 : Blk c5 (K + 1) ((w3.alloc (.cells #[.slice none 0 0] 137)).alloc (.cells #[.pointer (some ⟨q, 0, none⟩), .int .i64 sh, .int .i64 0, .int .i64 0, .pointer none, .pointer (some ⟨w3.heap.size, 0, none⟩)] 187)) (w3.heap.size + 1) [.pointer (some ⟨q, 0, none⟩), .int .i64 sh, .int .i64 0, .int .i64 0, .pointer none, .pointer (some ⟨w3.heap.size, 0, none⟩)] 187 := by
    have := Blk.new c4 (K + 1) (w3.alloc (.cells #[.slice none 0 0] 137)) [.pointer (some ⟨q, 0, none⟩), .int .i64 sh, .int .i64 0, .int .i64 0, .pointer none, .pointer (some ⟨w3.heap.size, 0, none⟩)] 187
    rw [hc5.out]
    simpa using this
  have R5 := Lib.hid (show NAt c w K q z w3.heap.size (w3.heap.size + 1) sh la s [.pointer (some ⟨q, 0, none⟩), .int .i64 sh, .int .i64 0, .int .i64 0, .pointer none, .pointer (some ⟨w3.heap.size, 0, none⟩)] c5 ((w3.alloc (.cells #[.slice none 0 0] 137)).alloc (.cells #[.pointer (some ⟨q, 0, none⟩), .int .i64 sh, .int .i64 0, .int .i64 0, .pointer none, .pointer (some ⟨w3.heap.size, 0, none⟩)] 187)) from
    ⟨(S3.out.trans (T4.out.trans T5.out)).mono (fun _ h => h.elim), (A3.out.stp T4.out id).stp T5.out id, (Z3.out.stp T4.out id).stp T5.out id, gb4.stp T5.out id, pb5, Nat.le_succ_of_le S3.out.size⟩)
  clear hc4 hc5 T4 T5 gb4 pb5 A3 Z3 S3
  go_wp2_with fail
  obtain ⟨gp, hgp⟩ : ∃ gp, gp = w3.heap.size := ⟨_, rfl⟩
  obtain ⟨p, hp⟩ : ∃ p, p = w3.heap.size + 1 := ⟨_, rfl⟩
  rw [← hp, ← hgp] at R5
  rw [← hp, ← hgp]
  clear hp hgp z0 zl E1 E2
  refine (alloc_ok R5.out.ar (-1) G1.out).mono ?_
  rintro e w6 ⟨rfl, c6, t6, a6⟩
  have R6 := Lib.hid (R5.out.are t6 a6)
  clear t6 a6 R5
  obtain ⟨z0, p2, p3, p4, f2, f3, f4, lp, lz⟩ := R6.out.xs rfl
  go_wp2_with fail
  have R7 := Lib.hid (R6.out.put 2 (.int .i64 la.length))
  clear R6 z0 p2 p3 p4 f2 f3 f4 lp lz
  refine (alloc_ok R7.out.ar (-1) G2.out).mono ?_
  rintro e w8 ⟨rfl, c8, t8, a8⟩
  rw [show ((((la ++ [(-1 : Int)]).length : Nat)) : Int) = ((la.length + 1 : Nat) : Int) by simp]
  have R8 := Lib.hid (R7.out.are t8 a8)
  clear t8 a8 R7
  obtain ⟨z0, p2, p3, p4, f2, f3, f4, lp, lz⟩ := R8.out.xs rfl
  go_wp2_with fail
  have R9 := Lib.hid (R8.out.put 3 (.int .i64 ((la.length + 1 : Nat) : Int)))
  clear R8 z0 p2 p3 p4 f2 f3 f4 lp lz
  refine (avnew_ok R9.out.ar (K + 2) sh (by omega) Hsh.out G3.out).mono ?_
  rintro e w10 ⟨bp, rfl, c10, t10, a10, b10⟩
  have R10 := Lib.hid (R9.out.are t10 a10)
  have B10 := Lib.hid (show BufAt c10 (K + 2) w10 bp sh (la.length + 2) by have := b10; simpa using this)
  clear t10 a10 b10 R9
  obtain ⟨z0, p2, p3, p4, f2, f3, f4, lp, lz⟩ := R10.out.xs rfl
  have T11 := Lib.hid ((Stp.refl (· = K + 1) c10 w10).setCell (p := ⟨p, 4, none⟩) (.pointer (some ⟨bp, 0, none⟩)) R10.out.pb.1)
  have R11 := Lib.hid (R10.out.put 4 (.pointer (some ⟨bp, 0, none⟩)))
  have B11 := Lib.hid (B10.out.stp T11.out (by omega))
  clear T11 R10 B10
  go_wp2
  go_ret2
  exact ⟨p, bp, gp, rfl, c10, R11.out.st, R11.out.ar, ⟨R11.out.pb, B11.out, none, 0, R11.out.gb, Row.nil _ _ _ _ _⟩⟩

end
end Go.Proofs.YtiphdedfbafhkaaGreatDoor

namespace Go.Proofs.YtiphdedfbafhkaaGreatDoor
open Go.RowKit

/-- A sequencer and its arena, part of the way. -/
structure PAt (c0 : Nat → Nat) (w0 : World) (K p q bp gp : Nat) (S : Sq) (la : List Int) (c : Nat → Nat) (w : World) : Prop where
  st : Stp (· = K) c0 c w0 w
  ar : ArenaS c K w q la
  sq : SeqIs c (K + 1) w p q bp gp S

section
variable {c0 : Nat → Nat} {w0 : World} {K p q bp gp : Nat} {S : Sq} {la la' : List Int} {c c' : Nat → Nat} {w w' : World}
theorem PAt.stpF (h : PAt c0 w0 K p q bp gp S la c w) (t : Stp (fun _ => False) c c' w w') : PAt c0 w0 K p q bp gp S la c' w' :=
  ⟨h.st.trans (t.mono fun _ h => h.elim), h.ar.stp t id, h.sq.stp t id id id⟩
theorem PAt.are (h : PAt c0 w0 K p q bp gp S la c w) (t : Stp (· = K) c c' w w') (a : ArenaS c' K w' q la') : PAt c0 w0 K p q bp gp S la' c' w' :=
  ⟨h.st.trans t, a, h.sq.stp t (by omega) (by omega) (by omega)⟩
theorem PAt.load_c (h : PAt c0 w0 K p q bp gp S la c w) {v : Int} (hcu : S.cur < la.length) (hv : la.getD S.cur 0 = v) :
    Calls Tryz.prog 37 #[.pointer (some ⟨q, 0, none⟩), .int .i64 S.cur] w fun e w' => e = .returned (.tuple #[.int .i64 v, .nilIface]) ∧ ∃ c', Hid (PAt c0 w0 K p q bp gp S la c' w') ∧ (w'.cell? ⟨p, 0, none⟩ = some (.pointer (some ⟨q, 0, none⟩)) ∧ w'.cell? ⟨p, 1, none⟩ = some (.int .i64 S.sh) ∧ w'.cell? ⟨p, 2, none⟩ = some (.int .i64 S.cur) ∧ w'.cell? ⟨p, 3, none⟩ = some (.int .i64 S.cac) ∧ w'.cell? ⟨p, 4, none⟩ = some (.pointer (some ⟨bp, 0, none⟩)) ∧ w'.cell? ⟨p, 5, none⟩ = some (.pointer (some ⟨gp, 0, none⟩)) ∧ p < w'.heap.size) := by
  refine (load_s h.ar S.cur hcu).mono ?_
  rintro e w' ⟨rfl, c', t, a⟩
  exact ⟨by rw [hv], c', Lib.hid (h.are t a), (h.are t a).sq.cs⟩
theorem PAt.show_c (h : PAt c0 w0 K p q bp gp S la c w) (lo hi : Int) (hl : S.first + 2 ^ S.sh ≤ la.length) (h0 : 0 ≤ lo) (h1 : lo ≤ hi) (h2 : hi ≤ 4611686018427387904) (h3 : hi - lo < 2 ^ S.sh) :
    Calls Tryz.prog 107 #[.pointer (some ⟨bp, 0, none⟩), .pointer (some ⟨q, 0, none⟩), .int .i64 lo, .int .i64 hi] w fun e w' => e = .returned .nilIface ∧ ∃ c', Hid (PAt c0 w0 K p q bp gp S (showAll la S.first S.sh lo (hi - lo + 1).toNat) c' w') ∧ (w'.cell? ⟨p, 0, none⟩ = some (.pointer (some ⟨q, 0, none⟩)) ∧ w'.cell? ⟨p, 1, none⟩ = some (.int .i64 S.sh) ∧ w'.cell? ⟨p, 2, none⟩ = some (.int .i64 S.cur) ∧ w'.cell? ⟨p, 3, none⟩ = some (.int .i64 S.cac) ∧ w'.cell? ⟨p, 4, none⟩ = some (.pointer (some ⟨bp, 0, none⟩)) ∧ w'.cell? ⟨p, 5, none⟩ = some (.pointer (some ⟨gp, 0, none⟩)) ∧ p < w'.heap.size) := by
  refine (avshow_ok h.sq.bf h.ar (by omega) hl lo hi h0 h1 h2 h3).mono ?_
  rintro e w' ⟨rfl, c', t, a⟩
  exact ⟨rfl, c', Lib.hid (h.are t a), (h.are t a).sq.cs⟩
theorem PAt.high_c (h : PAt c0 w0 K p q bp gp S la c w) (lo hi : Int) (hl : S.first + 2 ^ S.sh ≤ la.length) (h0 : 0 ≤ lo) (h1 : lo ≤ 4611686018427387904) (h2 : hi ≤ 4611686018427387904) (h3 : -9223372036854775808 ≤ hi) :
    Calls Tryz.prog 117 #[.pointer (some ⟨bp, 0, none⟩), .pointer (some ⟨q, 0, none⟩), .int .i64 lo, .int .i64 hi] w fun e w' => ∃ x, e = .returned (.tuple #[.int .i64 x, .nilIface]) ∧ HiAt la S.first S.sh lo hi x ∧ ∃ c', Hid (PAt c0 w0 K p q bp gp S la c' w') ∧ (w'.cell? ⟨p, 0, none⟩ = some (.pointer (some ⟨q, 0, none⟩)) ∧ w'.cell? ⟨p, 1, none⟩ = some (.int .i64 S.sh) ∧ w'.cell? ⟨p, 2, none⟩ = some (.int .i64 S.cur) ∧ w'.cell? ⟨p, 3, none⟩ = some (.int .i64 S.cac) ∧ w'.cell? ⟨p, 4, none⟩ = some (.pointer (some ⟨bp, 0, none⟩)) ∧ w'.cell? ⟨p, 5, none⟩ = some (.pointer (some ⟨gp, 0, none⟩)) ∧ p < w'.heap.size) := by
  refine (avhigh_ok h.sq.bf h.ar (by omega) hl lo hi h0 h1 h2 h3).mono ?_
  rintro e w' ⟨x, rfl, hx, c', t, a⟩
  exact ⟨x, rfl, hx, c', Lib.hid (h.are t a), (h.are t a).sq.cs⟩
end

section
variable {c : Nat → Nat} {K : Nat} {w : World} {p q bp gp : Nat} {S : Sq} {la : List Int}

set_option maxRecDepth 100000 in
theorem mhigh_ok (ha : ArenaS c K w q la) (hB : SeqIs c (K + 1) w p q bp gp S) {v : Int} (hcu : S.cur < la.length) (hv : la.getD S.cur 0 = v) (lo : Int) (hl : S.first + 2 ^ S.sh ≤ la.length) (h0 : 0 ≤ lo) (h1 : lo ≤ 4611686018427387904) (h2 : v ≤ 4611686018427387904) (h3 : -9223372036854775808 ≤ v) :
    Calls Tryz.prog 77 #[.pointer (some ⟨p, 0, none⟩), .int .i64 lo] w fun e w' => ∃ x, e = .returned (.tuple #[.int .i64 x, .nilIface]) ∧ HiAt la S.first S.sh lo v x ∧ ∃ c', Stp (· = K) c c' w w' ∧ ArenaS c' K w' q la ∧ SeqIs c' (K + 1) w' p q bp gp S := by
  have R1 := Lib.hid (show PAt c w K p q bp gp S la c w from ⟨Stp.refl _ _ _, ha, hB⟩)
  have Hcu := Lib.hid hcu
  have Hv := Lib.hid hv
  have Hl := Lib.hid hl
  have H0 := Lib.hid h0
  have H1 := Lib.hid h1
  have H2 := Lib.hid h2
  have H3 := Lib.hid h3
  obtain ⟨s0, s1, s2, s3, s4, s5, lp⟩ := hB.cs
  clear ha hB hcu hv hl h0 h1 h2 h3
  go_enter Tryz.func77, Tryz.ntmps77
  go_upto_region 3 with fail
  go_region_held3 (fun w' => w'.cell? ⟨p, 0, none⟩ = some (.pointer (some ⟨q, 0, none⟩)) ∧ w'.cell? ⟨p, 1, none⟩ = some (.int .i64 S.sh) ∧ w'.cell? ⟨p, 2, none⟩ = some (.int .i64 S.cur) ∧ w'.cell? ⟨p, 3, none⟩ = some (.int .i64 S.cac) ∧ w'.cell? ⟨p, 4, none⟩ = some (.pointer (some ⟨bp, 0, none⟩)) ∧ w'.cell? ⟨p, 5, none⟩ = some (.pointer (some ⟨gp, 0, none⟩)))
    (first | exact ⟨by assumption, by assumption, by assumption, by assumption, by assumption, by assumption⟩ | go_keep)
    (first
      | (go_at_call 37; refine (PAt.load_c (by first | exact R1.out | exact R1.out.stpF (Stp.refl (fun _ => False) _ _).drew | exact R1.out.stpF ((Stp.refl (fun _ => False) _ _).drewN _)) (by exact Hcu.out) (by exact Hv.out)).mono ?_; rintro e w2 ⟨rfl, c2, R2, ⟨s0, s1, s2, s3, s4, s5, lp⟩⟩))
  go_upto_region 6 with fail
  go_region_held3 (fun w' => w'.cell? ⟨p, 0, none⟩ = some (.pointer (some ⟨q, 0, none⟩)) ∧ w'.cell? ⟨p, 1, none⟩ = some (.int .i64 S.sh) ∧ w'.cell? ⟨p, 2, none⟩ = some (.int .i64 S.cur) ∧ w'.cell? ⟨p, 3, none⟩ = some (.int .i64 S.cac) ∧ w'.cell? ⟨p, 4, none⟩ = some (.pointer (some ⟨bp, 0, none⟩)) ∧ w'.cell? ⟨p, 5, none⟩ = some (.pointer (some ⟨gp, 0, none⟩)))
    (first | exact ⟨by assumption, by assumption, by assumption, by assumption, by assumption, by assumption⟩ | go_keep)
    (first
      | (go_at_call 117; refine (PAt.high_c (by first | exact R2.out | exact R2.out.stpF (Stp.refl (fun _ => False) _ _).drew | exact R2.out.stpF ((Stp.refl (fun _ => False) _ _).drewN _)) lo v (by exact Hl.out) (by exact H0.out) (by exact H1.out) (by exact H2.out) (by exact H3.out)).mono ?_; rintro e w3 ⟨x, rfl, hx, c3, R3, ⟨s0, s1, s2, s3, s4, s5, lp⟩⟩; have HX := Lib.hid hx; clear hx))
  go_wp2
  go_ret2
  exact ⟨x, rfl, HX.out, c3, R3.out.st, R3.out.ar, R3.out.sq⟩

set_option maxRecDepth 100000 in
theorem mpublish_ok (ha : ArenaS c K w q la) (hB : SeqIs c (K + 1) w p q bp gp S) {v : Int} (hcu : S.cur < la.length) (hv : la.getD S.cur 0 = v) (lo hi : Int) (hl : S.first + 2 ^ S.sh ≤ la.length) (h0 : 0 ≤ lo) (h1 : lo ≤ hi) (h2 : hi ≤ v) (h3 : hi - lo < 2 ^ S.sh) (h4 : v ≤ 4611686018427387904) :
    Calls Tryz.prog 59 #[.pointer (some ⟨p, 0, none⟩), .int .i64 lo, .int .i64 hi] w fun e w' => e = .returned .nilIface ∧ ∃ c', Stp (· = K) c c' w w' ∧ ArenaS c' K w' q (showAll la S.first S.sh lo (hi - lo + 1).toNat) ∧ SeqIs c' (K + 1) w' p q bp gp S := by
  have R1 := Lib.hid (show PAt c w K p q bp gp S la c w from ⟨Stp.refl _ _ _, ha, hB⟩)
  have Hcu := Lib.hid hcu
  have Hv := Lib.hid hv
  have Hl := Lib.hid hl
  have H0 := Lib.hid h0
  have H1 := Lib.hid h1
  have H2 := Lib.hid (show hi ≤ 4611686018427387904 by omega)
  have H3 := Lib.hid h3
  have Hsh := Lib.hid hB.bf.1
  have t1 : decide (lo < 0) = false := by simp; omega
  have t2 : decide (hi < lo) = false := by simp; omega
  have t3 : decide (v < hi) = false := by simp; omega
  have t4 : decide ((2 : Int) ^ S.sh ≤ hi - lo) = false := by simp; omega
  have F1 := Lib.hid (show wrap64 (hi - lo) = hi - lo from IntWalk.wrap64_in _ (by constructor <;> omega))
  obtain ⟨s0, s1, s2, s3, s4, s5, lp⟩ := hB.cs
  clear ha hB hcu hv hl h0 h1 h2 h3 h4
  go_enter Tryz.func59, Tryz.ntmps59
  go_upto_region 3 with fail
  go_region_held3 (fun w' => w'.cell? ⟨p, 0, none⟩ = some (.pointer (some ⟨q, 0, none⟩)) ∧ w'.cell? ⟨p, 1, none⟩ = some (.int .i64 S.sh) ∧ w'.cell? ⟨p, 2, none⟩ = some (.int .i64 S.cur) ∧ w'.cell? ⟨p, 3, none⟩ = some (.int .i64 S.cac) ∧ w'.cell? ⟨p, 4, none⟩ = some (.pointer (some ⟨bp, 0, none⟩)) ∧ w'.cell? ⟨p, 5, none⟩ = some (.pointer (some ⟨gp, 0, none⟩)))
    (first | exact ⟨by assumption, by assumption, by assumption, by assumption, by assumption, by assumption⟩ | go_keep)
    (first
      | (go_at_call 37; refine (PAt.load_c (by first | exact R1.out | exact R1.out.stpF (Stp.refl (fun _ => False) _ _).drew | exact R1.out.stpF ((Stp.refl (fun _ => False) _ _).drewN _)) (by exact Hcu.out) (by exact Hv.out)).mono ?_; rintro e w2 ⟨rfl, c2, R2, ⟨s0, s1, s2, s3, s4, s5, lp⟩⟩))
  have E1 := F1.out
  go_wp2_with fail
  refine (slots_k S.sh Hsh.out _).mono ?_
  rintro e w4 ⟨rfl, hw4⟩
  have T4 := Lib.hid ((Stp.refl (fun _ => False) c2 w2).alloc (.cells #[.int .i64 S.sh] 65) 0)
  rw [hw4] at T4
  have R4 := Lib.hid (R2.out.stpF T4.out)
  clear hw4 T4 s0 s1 s2 s3 s4 s5 lp
  obtain ⟨s0, s1, s2, s3, s4, s5, lp⟩ := R4.out.sq.cs
  go_upto_region 8 with fail
  go_region_held3 (fun w' => w'.cell? ⟨p, 0, none⟩ = some (.pointer (some ⟨q, 0, none⟩)) ∧ w'.cell? ⟨p, 1, none⟩ = some (.int .i64 S.sh) ∧ w'.cell? ⟨p, 2, none⟩ = some (.int .i64 S.cur) ∧ w'.cell? ⟨p, 3, none⟩ = some (.int .i64 S.cac) ∧ w'.cell? ⟨p, 4, none⟩ = some (.pointer (some ⟨bp, 0, none⟩)) ∧ w'.cell? ⟨p, 5, none⟩ = some (.pointer (some ⟨gp, 0, none⟩)))
    (first | exact ⟨by assumption, by assumption, by assumption, by assumption, by assumption, by assumption⟩ | go_keep)
    (first
      | (go_at_call 107; refine (PAt.show_c (by first | exact R4.out | exact R4.out.stpF (Stp.refl (fun _ => False) _ _).drew | exact R4.out.stpF ((Stp.refl (fun _ => False) _ _).drewN _)) lo hi (by exact Hl.out) (by exact H0.out) (by exact H1.out) (by exact H2.out) (by exact H3.out)).mono ?_; rintro e w5 ⟨rfl, c5, R5, ⟨s0, s1, s2, s3, s4, s5, lp⟩⟩))
  go_wp2
  go_ret
  exact ⟨rfl, c5, R5.out.st, R5.out.ar, R5.out.sq⟩

set_option maxRecDepth 100000 in
theorem mpublish_bad (ha : ArenaS c K w q la) (hB : SeqIs c (K + 1) w p q bp gp S) {v : Int} (hcu : S.cur < la.length) (hv : la.getD S.cur 0 = v) (lo hi : Int) (h : lo < 0 ∨ hi < lo ∨ v < hi) :
    Calls Tryz.prog 59 #[.pointer (some ⟨p, 0, none⟩), .int .i64 lo, .int .i64 hi] w fun e w' => ∃ ev, e = .returned ev ∧ ∃ c', Stp (· = K) c c' w w' ∧ ArenaS c' K w' q la ∧ SeqIs c' (K + 1) w' p q bp gp S ∧ ErrAt c' w' ev 1 := by
  have R1 := Lib.hid (show PAt c w K p q bp gp S la c w from ⟨Stp.refl _ _ _, ha, hB⟩)
  have Hcu := Lib.hid hcu
  have Hv := Lib.hid hv
  have t : decide (lo < 0) = true ∨ (decide (lo < 0) = false ∧ decide (hi < lo) = true) ∨ (decide (lo < 0) = false ∧ decide (hi < lo) = false ∧ decide (v < hi) = true) := by
    simp only [decide_eq_true_eq, decide_eq_false_iff_not]; omega
  obtain ⟨s0, s1, s2, s3, s4, s5, lp⟩ := hB.cs
  clear ha hB hcu hv h
  rcases t with t1 | ⟨t1, t2⟩ | ⟨t1, t2, t3⟩
  all_goals
    go_enter Tryz.func59, Tryz.ntmps59
    go_upto_region 3 with fail
    go_region_held3 (fun w' => w'.cell? ⟨p, 0, none⟩ = some (.pointer (some ⟨q, 0, none⟩)) ∧ w'.cell? ⟨p, 1, none⟩ = some (.int .i64 S.sh) ∧ w'.cell? ⟨p, 2, none⟩ = some (.int .i64 S.cur) ∧ w'.cell? ⟨p, 3, none⟩ = some (.int .i64 S.cac) ∧ w'.cell? ⟨p, 4, none⟩ = some (.pointer (some ⟨bp, 0, none⟩)) ∧ w'.cell? ⟨p, 5, none⟩ = some (.pointer (some ⟨gp, 0, none⟩)))
      (first | exact ⟨by assumption, by assumption, by assumption, by assumption, by assumption, by assumption⟩ | go_keep)
      (first
        | (go_at_call 37; refine (PAt.load_c (by first | exact R1.out | exact R1.out.stpF (Stp.refl (fun _ => False) _ _).drew | exact R1.out.stpF ((Stp.refl (fun _ => False) _ _).drewN _)) (by exact Hcu.out) (by exact Hv.out)).mono ?_; rintro e w2 ⟨rfl, c2, R2, ⟨s0, s1, s2, s3, s4, s5, lp⟩⟩))
    have T3 := Lib.hid ((Stp.refl (fun _ => False) c2 w2).alloc (.cells #[.string ⟨#[112, 117, 98, 108, 105, 115, 104]⟩, .int .i64 hi, .iface 98 (.int .i64 1)] 181) 1)
    have E3 := Lib.hid (ErrAt.new c2 w2 ⟨#[112, 117, 98, 108, 105, 115, 104]⟩ hi 1)
    have R3 := Lib.hid (R2.out.stpF T3.out)
    go_wp2_with (go_at_call 50; refine (wrap_some _ _ _ _ _).mono ?_; rintro e w' ⟨rfl, rfl⟩)
    go_ret
    exact ⟨_, rfl, _, R3.out.st, R3.out.ar, R3.out.sq, E3.out⟩

end
end Go.Proofs.YtiphdedfbafhkaaGreatDoor

namespace Go.Proofs.YtiphdedfbafhkaaGreatDoor
open Go.RowKit

/-- The cells that a sequencer names are there. -/
structure SqOK (la : List Int) (S : Sq) : Prop where
  cu : S.cur < la.length
  ca : S.cac < la.length
  sh : S.sh < 21
  is : ∀ x ∈ S.ids, 0 ≤ x ∧ x < la.length
  il : (S.ids.length : Int) ≤ 1048576

/-- A try that may go on. -/
structure TrOK (la : List Int) (t : Tr) : Prop where
  hi : -1 ≤ t.hi ∧ t.hi ≤ 4611686018427387904
  is : ∀ x ∈ t.ids, 0 ≤ x ∧ x < la.length
  st : t.stage ≤ 6
  s2 : t.stage = 2 → t.ids ≠ []

/-- A try as a value. -/
@[reducible] def trV (p : Nat) (t : Tr) (ao : Option Addr) (cap : Nat) : Value :=
  .agg #[.pointer (some ⟨p, 0, none⟩), .int .i64 t.n, .int .i64 (t.stage : Int), .int .i64 t.claimed, .int .i64 t.hi, .slice ao t.ids.length cap, .int .i64 t.most]

theorem tr_w {sh : Nat} {hi : Int} (hs : sh < 21) (h : -1 ≤ hi ∧ hi ≤ 4611686018427387904) : wrap64 (hi - 2 ^ sh) = hi - 2 ^ sh :=
  IntWalk.wrap64_in _ (by have := two_pow_bd sh hs; constructor <;> omega)

section
variable {c : Nat → Nat} {K : Nat} {w : World} {p q bp gp : Nat} {S : Sq} {la : List Int} {t : Tr} {ao : Option Addr} {cap : Nat}
theorem tstep_c (ha : ArenaS c K w q la) (hB : SeqIs c (K + 1) w p q bp gp S) (hs : In c (K + 4) w 1 ao t.ids.length cap (t.ids.map (Value.int .i64))) (hok : SqOK la S) (ht : TrOK la t) (hf : t.stage < 5) (hK : 2 ≤ K) :
    Calls Tryz.prog 83 #[trV p t ao cap] w fun e w' => ∃ ao' cap' ev, e = .returned (.tuple #[trV p (stepT S la t).2.1 ao' cap', ev]) ∧ ∃ c', Stp (· = K) c c' w w' ∧ ArenaS c' K w' q (stepT S la t).1 ∧ In c' (K + 4) w' 1 ao' (stepT S la t).2.1.ids.length cap' ((stepT S la t).2.1.ids.map (Value.int .i64)) ∧
      (((stepT S la t).2.2 = 0 ∧ ev = .nilIface) ∨ ((stepT S la t).2.2 ≠ 0 ∧ ErrAt c' w' ev (stepT S la t).2.2)) := by
  obtain ⟨n, stage, claimed, hi, ids, most⟩ := t
  obtain ⟨hhi, his, hst, hs2⟩ := ht
  simp only at hhi his hst hs2 hf hs
  have hw := tr_w hok.sh hhi
  rcases (show stage = 0 ∨ stage = 1 ∨ stage = 2 ∨ stage = 3 ∨ stage = 4 by omega) with rfl | rfl | rfl | rfl | rfl
  · by_cases hn : nextErr (la.getD S.cur 0) n = 0
    · have e : stepT S la ⟨n, 0, claimed, hi, ids, most⟩ = (la, ⟨n, 1, la.getD S.cur 0, la.getD S.cur 0 + n, ids, most⟩, 0) := by
        rw [stepT, if_neg (by simp), if_pos rfl, if_neg (fun h => h hn)]
      rw [e]
      refine (ts_cur n claimed hi most ha hB hs hok.cu rfl hn).mono ?_
      rintro e w' ⟨rfl, c', h1, h2, h3⟩
      exact ⟨_, _, _, rfl, c', h1, h2, h3, .inl ⟨rfl, rfl⟩⟩
    · have e : stepT S la ⟨n, 0, claimed, hi, ids, most⟩ = (la, ⟨n, 0, claimed, hi, ids, most⟩, nextErr (la.getD S.cur 0) n) := by
        rw [stepT, if_neg (by simp), if_pos rfl, if_pos hn]
      rw [e]
      refine (ts_bad n claimed hi most ha hB hs hok.cu rfl hn hK).mono ?_
      rintro e w' ⟨ev, rfl, c', h1, h2, h3, h4⟩
      exact ⟨_, _, _, rfl, c', h1, h2, h3, .inr ⟨hn, h4⟩⟩
  · by_cases hen : hi - 2 ^ S.sh ≤ la.getD S.cac 0 ∧ la.getD S.cac 0 ≤ claimed
    · have e : stepT S la ⟨n, 1, claimed, hi, ids, most⟩ = (la, ⟨n, 4, claimed, hi, ids, most⟩, 0) := by
        rw [stepT, if_neg (by simp), if_neg (by simp), if_pos rfl, if_pos hen]
      rw [e]
      refine (ts_enough n claimed hi most ha hB hs hok.ca rfl hen.1 hen.2 hw).mono ?_
      rintro e w' ⟨rfl, c', h1, h2, h3⟩
      exact ⟨_, _, _, rfl, c', h1, h2, h3, .inl ⟨rfl, rfl⟩⟩
    · by_cases hid : S.ids = []
      · have e : stepT S la ⟨n, 1, claimed, hi, ids, most⟩ = (la, judgeT S ⟨n, 2, claimed, hi, [], claimed⟩, 0) := by
          rw [stepT, if_neg (by simp), if_neg (by simp), if_pos rfl, if_neg hen, if_pos hid]
        rw [e]
        by_cases hj : claimed < hi - 2 ^ S.sh
        · rw [show judgeT S ⟨n, 2, claimed, hi, [], claimed⟩ = ⟨n, 6, claimed, hi, [], claimed⟩ by rw [judgeT, if_pos hj]]
          refine (ts_scan_full n claimed hi most ha hB hs hok.ca rfl hen hw (N := 0) (by rw [hid]; rfl) (by decide) rfl hj).mono ?_
          rintro e w' ⟨ao', cap', rfl, c', h1, h2, h3⟩
          rw [hid] at h3
          exact ⟨_, _, _, rfl, c', h1, h2, h3, .inl ⟨rfl, rfl⟩⟩
        · rw [show judgeT S ⟨n, 2, claimed, hi, [], claimed⟩ = ⟨n, 3, claimed, hi, [], claimed⟩ by rw [judgeT, if_neg hj]]
          refine (ts_scan_keep n claimed hi most ha hB hs hok.ca rfl hen hw (N := 0) (by rw [hid]; rfl) (by decide) rfl hj).mono ?_
          rintro e w' ⟨ao', cap', rfl, c', h1, h2, h3⟩
          rw [hid] at h3
          exact ⟨_, _, _, rfl, c', h1, h2, h3, .inl ⟨rfl, rfl⟩⟩
      · have e : stepT S la ⟨n, 1, claimed, hi, ids, most⟩ = (la, ⟨n, 2, claimed, hi, S.ids, claimed⟩, 0) := by
          rw [stepT, if_neg (by simp), if_neg (by simp), if_pos rfl, if_neg hen, if_neg hid]
        rw [e]
        refine (ts_scan n claimed hi most ha hB hs hok.ca rfl hen hw (N := S.ids.length) rfl hok.il (List.length_pos_iff.2 hid)).mono ?_
        rintro e w' ⟨ao', cap', rfl, c', h1, h2, h3⟩
        exact ⟨_, _, _, rfl, c', h1, h2, h3, .inl ⟨rfl, rfl⟩⟩
  · obtain ⟨i, r, rfl⟩ : ∃ i r, ids = i :: r := by
      cases ids with
      | nil => exact absurd rfl (hs2 rfl)
      | cons i r => exact ⟨i, r, rfl⟩
    have hix := his i (List.mem_cons_self ..)
    by_cases hr : r = []
    · subst hr
      have e : stepT S la ⟨n, 2, claimed, hi, [i], most⟩ = (la, judgeT S ⟨n, 2, claimed, hi, [], min most (valAt la i)⟩, 0) := by
        rw [stepT, if_neg (by simp), if_neg (by simp), if_neg (by simp), if_pos rfl]; rfl
      rw [e]
      by_cases hj : min most (valAt la i) < hi - 2 ^ S.sh
      · rw [show judgeT S ⟨n, 2, claimed, hi, [], min most (valAt la i)⟩ = ⟨n, 6, claimed, hi, [], min most (valAt la i)⟩ by rw [judgeT, if_pos hj]]
        refine (ts_last_full n claimed hi most ha hB hs hix rfl hj hw).mono ?_
        rintro e w' ⟨ao', cap', rfl, c', h1, h2, h3⟩
        exact ⟨_, _, _, rfl, c', h1, h2, h3, .inl ⟨rfl, rfl⟩⟩
      · rw [show judgeT S ⟨n, 2, claimed, hi, [], min most (valAt la i)⟩ = ⟨n, 3, claimed, hi, [], min most (valAt la i)⟩ by rw [judgeT, if_neg hj]]
        refine (ts_last_keep n claimed hi most ha hB hs hix rfl hj hw).mono ?_
        rintro e w' ⟨ao', cap', rfl, c', h1, h2, h3⟩
        exact ⟨_, _, _, rfl, c', h1, h2, h3, .inl ⟨rfl, rfl⟩⟩
    · have e : stepT S la ⟨n, 2, claimed, hi, i :: r, most⟩ = (la, ⟨n, 2, claimed, hi, r, min most (valAt la i)⟩, 0) := by
        rw [stepT, if_neg (by simp), if_neg (by simp), if_neg (by simp), if_pos rfl, if_neg (by exact hr)]; rfl
      rw [e]
      refine (ts_more n claimed hi most ha hB hs hix (by have := List.length_pos_iff.2 hr; simp; omega)).mono ?_
      rintro e w' ⟨ao', cap', rfl, c', h1, h2, h3⟩
      exact ⟨_, _, _, rfl, c', h1, h2, h3, .inl ⟨rfl, rfl⟩⟩
  · have e : stepT S la ⟨n, 3, claimed, hi, ids, most⟩ = (la.set S.cac most, ⟨n, 4, claimed, hi, ids, most⟩, 0) := by
      simp [stepT]
    rw [e]
    refine (ts_store n claimed hi most ha hB hs hok.ca).mono ?_
    rintro e w' ⟨rfl, c', h1, h2, h3⟩
    exact ⟨_, _, _, rfl, c', h1, h2, h3, .inl ⟨rfl, rfl⟩⟩
  · by_cases ho : la.getD S.cur 0 = claimed
    · have e : stepT S la ⟨n, 4, claimed, hi, ids, most⟩ = (la.set S.cur hi, ⟨n, 5, claimed, hi, ids, most⟩, 0) := by
        rw [stepT, if_neg (by simp), if_neg (by simp), if_neg (by simp), if_neg (by simp), if_neg (by simp), if_pos ho]
      rw [e]
      refine (ts_swapy n claimed hi most ha hB hs hok.cu ho).mono ?_
      rintro e w' ⟨rfl, c', h1, h2, h3⟩
      exact ⟨_, _, _, rfl, c', h1, h2, h3, .inl ⟨rfl, rfl⟩⟩
    · have e : stepT S la ⟨n, 4, claimed, hi, ids, most⟩ = (la, ⟨n, 0, claimed, hi, ids, most⟩, 0) := by
        rw [stepT, if_neg (by simp), if_neg (by simp), if_neg (by simp), if_neg (by simp), if_neg (by simp), if_neg ho]
      rw [e]
      refine (ts_swapn n claimed hi most ha hB hs hok.cu ho).mono ?_
      rintro e w' ⟨rfl, c', h1, h2, h3⟩
      exact ⟨_, _, _, rfl, c', h1, h2, h3, .inl ⟨rfl, rfl⟩⟩
end
end Go.Proofs.YtiphdedfbafhkaaGreatDoor

namespace Go.Proofs.YtiphdedfbafhkaaGreatDoor
open Go.RowKit

/-- All steps of a claim: so many, and where they end; the last number is the error's. -/
inductive RunT (S : Sq) : List Int → Tr → Nat → List Int → Tr → Int → Prop
  | fin {la : List Int} {t : Tr} : 5 ≤ t.stage → RunT S la t 0 la t 0
  | err {la : List Int} {t : Tr} : t.stage < 5 → (stepT S la t).2.2 ≠ 0 → RunT S la t 1 (stepT S la t).1 (stepT S la t).2.1 (stepT S la t).2.2
  | step {la : List Int} {t : Tr} {n : Nat} {la' : List Int} {t' : Tr} {e : Int} : t.stage < 5 → (stepT S la t).2.2 = 0 → RunT S (stepT S la t).1 (stepT S la t).2.1 n la' t' e → RunT S la t (n + 1) la' t' e

/-- What Claim answers: the cells, the number, the error's number. -/
def claimR (S : Sq) (la : List Int) (n : Int) : List Int × Int × Int :=
  if n < 1 ∨ 2 ^ S.sh < n then (la, 0, 1)
  else if nextErr (la.getD S.cur 0) n ≠ 0 then (la, 0, nextErr (la.getD S.cur 0) n)
  else if la.getD S.cur 0 + n - 2 ^ S.sh ≤ la.getD S.cac 0 ∧ la.getD S.cac 0 ≤ la.getD S.cur 0 then (la.set S.cur (la.getD S.cur 0 + n), la.getD S.cur 0 + n, 0)
  else if (S.ids.map (valAt la)).foldl min (la.getD S.cur 0) < la.getD S.cur 0 + n - 2 ^ S.sh then (la, 0, 10)
  else ((la.set S.cac ((S.ids.map (valAt la)).foldl min (la.getD S.cur 0))).set S.cur (la.getD S.cur 0 + n), la.getD S.cur 0 + n, 0)

end Go.Proofs.YtiphdedfbafhkaaGreatDoor
