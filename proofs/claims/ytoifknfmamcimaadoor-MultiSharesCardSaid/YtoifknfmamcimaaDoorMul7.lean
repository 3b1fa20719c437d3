/- New of a sequencer; Publish, Highest, Claimed. No condition beyond each contract's own. -/
import Derived.Test.YtoifknfmamcimaaDoorMul6
namespace Go.Proofs.YtoifknfmamcimaaDoor
open Go.RowKit

/-- New, part of the way. -/
structure NAt (c0 : Nat → Nat) (w0 : World) (K q z gp p sh : Nat) (la : List Int) (s : Int) (cs : List Value) (c : Nat → Nat) (w : World) : Prop where
  st : Stp (· = K) c0 c w0 w
  ar : ArenaAt c K w q la s
  zb : Blk c (K + 5) w z [.int .i64 sh] 108
  gb : Blk c (K + 3) w gp [.slice none 0 0] 128
  pb : Blk c (K + 1) w p cs 130
  np : w0.heap.size ≤ p

section
variable {c0 : Nat → Nat} {w0 : World} {K q z gp p sh : Nat} {la la' : List Int} {s s' : Int} {cs : List Value} {c c' : Nat → Nat} {w w' : World}
theorem NAt.are (h : NAt c0 w0 K q z gp p sh la s cs c w) (t : Stp (· = K) c c' w w') (a : ArenaAt c' K w' q la' s') : NAt c0 w0 K q z gp p sh la' s' cs c' w' :=
  ⟨h.st.trans t, a, h.zb.stp t (by omega), h.gb.stp t (by omega), h.pb.stp t (by omega), h.np⟩
theorem NAt.put (h : NAt c0 w0 K q z gp p sh la s cs c w) (j : Nat) (v : Value) : NAt c0 w0 K q z gp p sh la s (cs.set j v) c (w.setCell ⟨p, j, none⟩ v) := by
  have t := (Stp.refl (· = K + 1) c w).setCell (p := ⟨p, j, none⟩) v h.pb.1
  exact ⟨h.st.setNew (p := ⟨p, j, none⟩) _ h.np, h.ar.stp t (by omega), h.zb.stp t (by omega), h.gb.stp t (by omega), h.pb.set j v, h.np⟩
theorem NAt.xs (h : NAt c0 w0 K q z gp p sh la s cs c w) {v0 v1 v2 v3 v4 v5 : Value} (e : cs = [v0, v1, v2, v3, v4, v5]) : w.cell? ⟨z, 0, none⟩ = some (.int .i64 sh) ∧ w.cell? ⟨p, 2, none⟩ = some v2 ∧ w.cell? ⟨p, 3, none⟩ = some v3 ∧ w.cell? ⟨p, 4, none⟩ = some v4 ∧ w.frozen? ⟨p, 2, none⟩ = false ∧ w.frozen? ⟨p, 3, none⟩ = false ∧ w.frozen? ⟨p, 4, none⟩ = false ∧ p < w.heap.size ∧ z < w.heap.size := by
  subst e
  exact ⟨by simpa using h.zb.cell 0, by simpa using h.pb.cell 2, by simpa using h.pb.cell 3, by simpa using h.pb.cell 4, h.pb.free 2, h.pb.free 3, h.pb.free 4, h.pb.lt, h.zb.lt⟩
end

theorem mn_w1 {sh : Nat} (h : sh < 21) : wrap64 ((2 : Int) ^ sh + 2) = 2 ^ sh + 2 := IntWalk.wrap64_in _ (by have := two_pow_bd sh h; constructor <;> omega)
theorem mn_w2 {n : Nat} (h : (n : Int) ≤ 2097152) : wrap64 (2097152 - (n : Int)) = 2097152 - n := IntWalk.wrap64_in _ (by constructor <;> omega)

section
variable {c : Nat → Nat} {K : Nat} {w : World} {p q bp gp : Nat} {S : Sq} {la : List Int} {s : Int}
set_option maxRecDepth 100000 in
set_option maxHeartbeats 1000000 in
theorem mnew_ok (ha : ArenaAt c K w q la s) (sh : Nat) (hsh : sh < 21) (hl : (la.length : Int) + 2 + 2 ^ sh ≤ 2097152) (ht : Tab w) {m : Int} (hm : m = 2 ^ sh) :
    Calls Tryd.prog 23 #[.pointer (some ⟨q, 0, none⟩), .int .i64 m] w fun e w' => ∃ p bp gp, e = .returned (.tuple #[.pointer (some ⟨p, 0, none⟩), .nilIface]) ∧ ∃ c', Stp (· = K) c c' w w' ∧ ArenaAt c' K w' q (la ++ [-1] ++ [-1] ++ List.replicate (2 ^ sh) (-1)) s ∧ SeqIs c' (K + 1) w' p q bp gp ⟨sh, la.length, la.length + 1, la.length + 2, []⟩ := by
  subst hm
  have HA := Lib.hid ha
  have Hl := Lib.hid hl
  have Ht := Lib.hid ht
  have Hsh := Lib.hid hsh
  have hb := two_pow_bd sh hsh
  have t1 : decide (2097152 - (la.length : Int) < 2 ^ sh + 2) = false := by simp; omega
  have F1 := Lib.hid (mn_w1 hsh)
  have F2 := Lib.hid (mn_w2 (n := la.length) (by omega))
  have G1 := Lib.hid (show (la.length : Int) < 2097152 by omega)
  have G2 := Lib.hid (show ((la ++ [-1]).length : Int) < 2097152 by simp; omega)
  have G3 := Lib.hid (show ((la ++ [-1] ++ [-1]).length : Int) + 2 ^ sh ≤ 2097152 by simp; omega)
  clear ha hl ht hsh hb
  go_enter Tryd.func23, Tryd.ntmps23
  go_wp2_with fail
  refine (of_pow c sh Hsh.out w Ht.out).mono ?_
  rintro e w1 ⟨rfl, c1, t2⟩
  obtain ⟨z, hz⟩ : ∃ z, z = w1.heap.size := ⟨_, rfl⟩
  obtain ⟨c2, hc2, T2⟩ := (t2.alloc (.cells #[.int .i64 sh] 108) (K + 5)).name
  have Z2 := Lib.hid (show Blk c2 (K + 5) (w1.alloc (.cells #[.int .i64 sh] 108)) z [.int .i64 sh] 108 by rw [hc2.out, hz]; exact Blk.new c1 (K + 5) w1 [.int .i64 sh] _)
  have A2 := Lib.hid (HA.out.stp T2.out id)
  clear t2 hc2
  go_wp2_with fail
  rw [← hz]
  clear hz
  refine (slots_k sh Hsh.out _).mono ?_
  rintro e w3 ⟨rfl, hw3⟩
  obtain ⟨c3, -, T3⟩ := ((Stp.refl (fun _ => False) c2 (w1.alloc (.cells #[.int .i64 sh] 108))).alloc (.cells #[.int .i64 sh] 108) 0).name
  rw [hw3] at T3
  have A3 := Lib.hid (A2.out.stp T3.out id)
  have Z3 := Lib.hid (Z2.out.stp T3.out id)
  have S3 := Lib.hid (T2.out.trans T3.out)
  clear hw3 T3 T2 A2 Z2
  go_wp2_with fail
  refine (len_any A3.out).mono ?_
  rintro e w4 ⟨rfl, rfl⟩
  have E1 := F1.out
  have E2 := F2.out
  have z0 := Z3.out.cell 0
  have zl := Z3.out.lt
  simp at z0
  obtain ⟨c4, hc4, T4⟩ := ((Stp.refl (fun _ => False) c3 w3).alloc (.cells #[.slice none 0 0] 128) (K + 3)).name
  obtain ⟨c5, hc5, T5⟩ := ((Stp.refl (fun _ => False) c4 (w3.alloc (.cells #[.slice none 0 0] 128))).alloc (.cells #[.pointer (some ⟨q, 0, none⟩), .int .i64 sh, .int .i64 0, .int .i64 0, .pointer none, .pointer (some ⟨w3.heap.size, 0, none⟩)] 130) (K + 1)).name
  have gb4 : Blk c4 (K + 3) (w3.alloc (.cells #[.slice none 0 0] 128)) w3.heap.size [.slice none 0 0] 128 := by rw [hc4.out]; exact Blk.new c3 (K + 3) w3 [.slice none 0 0] _
  have pb5 : Blk c5 (K + 1) ((w3.alloc (.cells #[.slice none 0 0] 128)).alloc (.cells #[.pointer (some ⟨q, 0, none⟩), .int .i64 sh, .int .i64 0, .int .i64 0, .pointer none, .pointer (some ⟨w3.heap.size, 0, none⟩)] 130)) (w3.heap.size + 1) [.pointer (some ⟨q, 0, none⟩), .int .i64 sh, .int .i64 0, .int .i64 0, .pointer none, .pointer (some ⟨w3.heap.size, 0, none⟩)] 130 := by
    have := Blk.new c4 (K + 1) (w3.alloc (.cells #[.slice none 0 0] 128)) [.pointer (some ⟨q, 0, none⟩), .int .i64 sh, .int .i64 0, .int .i64 0, .pointer none, .pointer (some ⟨w3.heap.size, 0, none⟩)] 130
    rw [hc5.out]
    simpa using this
  have R5 := Lib.hid (show NAt c w K q z w3.heap.size (w3.heap.size + 1) sh la s [.pointer (some ⟨q, 0, none⟩), .int .i64 sh, .int .i64 0, .int .i64 0, .pointer none, .pointer (some ⟨w3.heap.size, 0, none⟩)] c5 ((w3.alloc (.cells #[.slice none 0 0] 128)).alloc (.cells #[.pointer (some ⟨q, 0, none⟩), .int .i64 sh, .int .i64 0, .int .i64 0, .pointer none, .pointer (some ⟨w3.heap.size, 0, none⟩)] 130)) from
    ⟨(S3.out.trans (T4.out.trans T5.out)).mono (fun _ h => h.elim), (A3.out.stp T4.out id).stp T5.out id, (Z3.out.stp T4.out id).stp T5.out id, gb4.stp T5.out id, pb5, Nat.le_succ_of_le S3.out.size⟩)
  clear hc4 hc5 T4 T5 gb4 pb5 A3 Z3 S3
  go_wp2_with fail
  obtain ⟨gp, hgp⟩ : ∃ gp, gp = w3.heap.size := ⟨_, rfl⟩
  obtain ⟨p, hp⟩ : ∃ p, p = w3.heap.size + 1 := ⟨_, rfl⟩
  rw [← hp, ← hgp] at R5
  rw [← hp, ← hgp]
  clear hp hgp z0 zl E1 E2
  refine (alloc_ok R5.out.ar (-1) G1.out).mono ?_
  rintro e w6 ⟨rfl, c6, t6, a6⟩
  have R6 := Lib.hid (R5.out.are t6 a6)
  clear t6 a6 R5
  obtain ⟨z0, p2, p3, p4, f2, f3, f4, lp, lz⟩ := R6.out.xs rfl
  go_wp2_with fail
  have R7 := Lib.hid (R6.out.put 2 (.int .i64 la.length))
  clear R6 z0 p2 p3 p4 f2 f3 f4 lp lz
  refine (alloc_ok R7.out.ar (-1) G2.out).mono ?_
  rintro e w8 ⟨rfl, c8, t8, a8⟩
  rw [show ((((la ++ [(-1 : Int)]).length : Nat)) : Int) = ((la.length + 1 : Nat) : Int) by simp]
  have R8 := Lib.hid (R7.out.are t8 a8)
  clear t8 a8 R7
  obtain ⟨z0, p2, p3, p4, f2, f3, f4, lp, lz⟩ := R8.out.xs rfl
  go_wp2_with fail
  have R9 := Lib.hid (R8.out.put 3 (.int .i64 ((la.length + 1 : Nat) : Int)))
  clear R8 z0 p2 p3 p4 f2 f3 f4 lp lz
  refine (avnew_ok R9.out.ar (K + 2) sh (by omega) Hsh.out G3.out).mono ?_
  rintro e w10 ⟨bp, rfl, c10, t10, a10, b10⟩
  have R10 := Lib.hid (R9.out.are t10 a10)
  have B10 := Lib.hid (show BufAt c10 (K + 2) w10 bp sh (la.length + 2) by have := b10; simpa using this)
  clear t10 a10 b10 R9
  obtain ⟨z0, p2, p3, p4, f2, f3, f4, lp, lz⟩ := R10.out.xs rfl
  have T11 := Lib.hid ((Stp.refl (· = K + 1) c10 w10).setCell (p := ⟨p, 4, none⟩) (.pointer (some ⟨bp, 0, none⟩)) R10.out.pb.1)
  have R11 := Lib.hid (R10.out.put 4 (.pointer (some ⟨bp, 0, none⟩)))
  have B11 := Lib.hid (B10.out.stp T11.out (by omega))
  clear T11 R10 B10
  go_wp2
  go_ret2
  exact ⟨p, bp, gp, rfl, c10, R11.out.st, R11.out.ar, ⟨R11.out.pb, B11.out, none, 0, R11.out.gb, Row.nil _ _ _ _ _⟩⟩

theorem mnew_nil (n : Int) (w : World) :
    Calls Tryd.prog 23 #[.pointer none, .int .i64 n] w fun e w' => e = .returned (.tuple #[.pointer none, .iface 119 (.int .i64 2)]) ∧ w = w' := by
  go_enter Tryd.func23, Tryd.ntmps23
  go_wp2
  go_ret2
  exact ⟨rfl, rfl⟩

theorem mnew_bad (c : Nat → Nat) (q : Nat) (n : Int) (h : NoPow n) (w : World) :
    Calls Tryd.prog 23 #[.pointer (some ⟨q, 0, none⟩), .int .i64 n] w fun e w' => ∃ et ev, e = .returned (.tuple #[.pointer none, .iface et ev]) ∧ ∃ c', Stp (fun _ => False) c c' w w' ∧ ErrAt c' w' (.iface et ev) 7 := by
  have Hh := Lib.hid h
  clear h
  go_enter Tryd.func23, Tryd.ntmps23
  go_wp2_with fail
  refine (of_bad c n Hh.out _).mono ?_
  rintro e w1 ⟨ev, rfl, c1, t1, e1⟩
  obtain ⟨et, eu, rfl⟩ := e1.iface'
  have E2 := Lib.hid (e1.stp ((Stp.refl (fun _ => False) c1 w1).alloc (.cells #[.int .i64 0] 108) 0) id)
  have T2 := Lib.hid (t1.alloc (.cells #[.int .i64 0] 108) 0)
  clear t1 e1
  go_wp2
  go_ret2
  exact ⟨_, _, rfl, _, T2.out, E2.out⟩
end
end Go.Proofs.YtoifknfmamcimaaDoor
