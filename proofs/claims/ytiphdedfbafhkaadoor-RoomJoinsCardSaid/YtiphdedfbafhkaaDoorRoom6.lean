/- Contracts of a room's Join. No condition beyond each contract's own. -/
import Derived.Test.YtiphdedfbafhkaaDoorRoom1
import Derived.Deep.LoopGhost
namespace Go.Proofs.YtiphdedfbafhkaaDoor
open Go.RowKit

/-- The numbers of so many cells from one on. -/
def idsF (a n : Nat) : List Int := (List.range n).map fun j => ((a + j : Nat) : Int)
theorem idsF_len (a n : Nat) : (idsF a n).length = n := by simp [idsF]
theorem idsF_succ (a n : Nat) : idsF a (n + 1) = idsF a n ++ [((a + n : Nat) : Int)] := by simp [idsF, List.range_succ]

/-- What a Join may turn. -/
def JJ (K : Nat) (j : Nat) : Prop := j = K + 3 ∨ j = K + 4 ∨ j = K + 10

section
variable {c c' : Nat → Nat} {K : Nat} {w w' : World} {r ar ck tb : Nat} {rs : Value} {la la' : List Int} {now : Int} {tl : List Tm} {l : List One} {s s' : Int}

theorem rmnew0_c (c : Nat → Nat) (K : Nat) (w : World) :
    Calls Tryd.prog 7 #[] w fun e w' => ∃ r ar ck tb, e = .returned (.pointer (some ⟨r, 0, none⟩)) ∧ ∃ c', Stp (K ≤ ·) c c' w w' ∧ RM c' K w' r ar ck tb (.slice none 0 0) [] 0 [] [] ∧ ArenaAt c' (K + 10) w' ar [] 0 := by
  go_enter Tryd.func7, Tryd.ntmps7
  go_wp2_with fail
  refine (new_any c (K + 10) w).mono ?_
  rintro e w1 ⟨rfl, c1, s1, a1⟩
  have S1 := Lib.hid s1
  have A1 := Lib.hid a1
  clear s1 a1
  go_wp2_with fail
  obtain ⟨c2, -, T2⟩ := ((Stp.refl (fun _ => False) c1 w1).alloc (.cells #[.int .i64 0, .slice none 0 0] 78) (K + 1)).name
  have C2 := Lib.hid (show ClockAt (paint c1 w1.heap.size (K + 1)) (K + 1) (w1.alloc (.cells #[.int .i64 0, .slice none 0 0] 78)) w1.heap.size 0 [] from ⟨0, none, 0, Blk.new c1 (K + 1) w1 [.int .i64 0, .slice none 0 0] _, Row.nil _ _ _ _ _, rfl⟩)
  refine (anew_any (paint c1 w1.heap.size (K + 1)) (K + 3) _).mono ?_
  rintro e w3 ⟨rfl, c3, s3, t3⟩
  have S2 := Lib.hid ((Stp.refl (fun _ => False) c1 w1).alloc (.cells #[.int .i64 0, .slice none 0 0] 78) (K + 1))
  have S3 := Lib.hid s3
  have T3 := Lib.hid t3
  clear s3 t3 T2
  go_wp2
  go_ret
  have hA := (A1.out.stp S2.out id).stp S3.out (by omega)
  have hC := C2.out.stp S3.out (by omega) (by omega)
  have S4 := (Stp.refl (fun _ => False) c3 w3).alloc (.cells #[.pointer (some ⟨w.heap.size, 0, none⟩), .pointer (some ⟨w1.heap.size, 0, none⟩), .pointer (some ⟨w1.heap.size + 1, 0, none⟩), .slice none 0 0] 81) K
  refine ⟨_, _, _, _, rfl, _, ?_, ⟨Blk.new c3 K w3 _ _, ⟨_, hA.stp S4 id⟩, hC.stp S4 id id, ?_⟩, hA.stp S4 id⟩
  · exact (((S1.out.mono (fun j hj => by omega)).trans (S2.out.mono (fun _ h => h.elim))).trans (S3.out.mono (fun j hj => by omega))).trans (S4.mono (fun _ h => h.elim))
  · have := T3.out.stp S4 id
    simpa using this

/-- A room, its arena's count of steps told. -/
structure RJ (c : Nat → Nat) (K : Nat) (w : World) (r ar ck tb : Nat) (rs : Value) (la : List Int) (s : Int) (now : Int) (tl : List Tm) (l : List One) : Prop where
  rm : RM c K w r ar ck tb rs la now tl l
  ra : ArenaAt c (K + 10) w ar la s

theorem RJ.stp {J : Nat → Prop} (h : RJ c K w r ar ck tb rs la s now tl l) (t : Stp J c c' w w') (h0 : ¬ J K) (h1 : ¬ J (K + 1)) (h2 : ¬ J (K + 2)) (h3 : ¬ J (K + 3)) (h4 : ¬ J (K + 10)) : RJ c' K w' r ar ck tb rs la s now tl l :=
  ⟨h.rm.stp t h0 h1 h2 h3 h4, h.ra.stp t h4⟩

theorem RJ.arena (h : RJ c K w r ar ck tb rs la s now tl l) (t : Stp (· = K + 10) c c' w w') (a : ArenaAt c' (K + 10) w' ar la' s') : RJ c' K w' r ar ck tb rs la' s' now tl l :=
  ⟨⟨h.rm.rb.stp t (by omega), ⟨_, a⟩, h.rm.ca.stp t (by omega) (by omega), h.rm.ta.stp t (by omega)⟩, a⟩

theorem RJ.table {l' : List One} (h : RJ c K w r ar ck tb rs la s now tl l) (t : Stp (· = K + 3) c c' w w') (a : TableAt c' (K + 3) w' tb l') : RJ c' K w' r ar ck tb rs la s now tl l' :=
  ⟨h.rm.table t a, h.ra.stp t (by omega)⟩

set_option maxRecDepth 100000 in
set_option maxHeartbeats 1000000 in
/-- Join where there is room. -/
theorem rmjoin_ok (h : RJ c K w r ar ck tb rs la s now tl l) {kv : Nat} {vo : Option Addr} {n cap : Nat} {xs : List Int} (hv : In c kv w 1 vo n cap (xs.map (Value.int .i64))) (hk : kv < K) (hl : (l.length : Int) < 64) (hn : n ≤ 20) (hla : la.length ≤ 100000) :
    Calls Tryd.prog 17 #[.pointer (some ⟨r, 0, none⟩), .slice vo n cap] w fun e w' => ∃ io ic, e = .returned (.tuple #[.int .i64 l.length, .slice io n ic, .nilIface]) ∧ ∃ c', Stp (JJ K) c c' w w' ∧ RJ c' K w' r ar ck tb rs (la ++ xs) s now tl (l ++ [⟨0, false, 0⟩]) ∧ Row c' (K + 4) w' 3 1 io n ic ((idsF la.length n).map (Value.int .i64)) := by
  have c0 := h.rm.rb.cell 0
  have c2 := h.rm.rb.cell 2
  simp at c0 c2
  have H := Lib.hid h
  have HV := Lib.hid hv
  have Hk := Lib.hid hk
  have Hl := Lib.hid hl
  have Hn := Lib.hid hn
  have Hla := Lib.hid hla
  have Hxs := Lib.hid (show xs.length = n by simpa using hv.1)
  have g0 : decide (64 ≤ l.length) = false := by simp; omega
  have g0' : l.length < 64 := by omega
  have W0 : wrap64 (2097152 - (la.length : Int)) = 2097152 - (la.length : Int) := IntWalk.wrap64_in _ ⟨by omega, by omega⟩
  have g1 : decide (2097152 - (la.length : Int) < (n : Int)) = false := by simp; clear W0; omega
  clear h hv hk hl hn hla
  go_enter Tryd.func17, Tryd.ntmps17
  go_wp2_with fail
  refine (alen_any H.out.rm.ta).mono ?_
  rintro e w1 ⟨rfl, rfl⟩
  go_wp2_with fail
  refine (len_any H.out.ra).mono ?_
  rintro e w1 ⟨rfl, rfl⟩
  clear c0 c2
  go_wp2
  go_loopg [7, 42] n (fun gh iv i wr => ∃ (c' : Nat → Nat) (j : Nat) (io : Option Addr) (ic : Nat), iv = .slice io j ic ∧ i = .int .i64 j ∧ j + gh = n ∧ Hid (RJ c' K wr r ar ck tb rs (la ++ xs.take j) s now tl l) ∧ Hid (Row c' (K + 4) wr 3 1 io j ic ((idsF la.length j).map (Value.int .i64))) ∧ Hid (Stp (JJ K) c c' w wr))
  case atStart => exact ⟨c, 0, none, 0, rfl, rfl, by omega, Lib.hid (by simpa using H.out), Lib.hid (Row.nil _ _ _ _ _), Lib.hid (Stp.refl _ _ _)⟩
  case round =>
    obtain ⟨c1, j, io, ic, rfl, rfl, hj, HJ, HI, HS⟩ := hrel
    have c0 := HJ.out.rm.rb.cell 0
    have c2 := HJ.out.rm.rb.cell 2
    simp at c0 c2
    by_cases hlt : j < n
    · have hjx : j < xs.length := by rw [Hxs.out]; exact hlt
      obtain ⟨a, ha, y0⟩ := (HV.out.stp (J := JJ K) HS.out (by have := Hk.out; unfold JJ; omega)).ints (j := j) hlt
      subst ha
      have Htk := Lib.hid (show xs.take (j + 1) = xs.take j ++ [xs.getD j 0] by rw [List.take_succ_eq_append_getElem hjx]; simp [List.getD, hjx])
      generalize xs.getD j 0 = y at *
      have hlen : (la ++ xs.take j).length = la.length + j := by rw [List.length_append, List.length_take, Hxs.out]; omega
      have Hlen := Lib.hid hlen
      have d2 := Lib.hid (show j + 1 ≤ maxLen by have := Hn.out; simp only [maxLen]; omega)
      have d3 := Lib.hid (show (j + 1) * 8 ≤ 140737488355328 by have := Hn.out; omega)
      have Hj3 := Lib.hid (show j + 1 + (gk - 1) = n ∧ gk - 1 < gk by omega)
      have W1 := Lib.hid (show wrap64 ((j : Int) + 1) = ((j + 1 : Nat) : Int) by rw [IntWalk.wrap64_in _ ⟨by have := Hn.out; omega, by have := Hn.out; omega⟩]; omega)
      have Hlb := Lib.hid (show ((la ++ xs.take j).length : Int) < 2097152 by rw [hlen]; have := Hla.out; have := Hn.out; omega)
      have g3 : (j : Int) < (n : Int) := by omega
      clear hlen hjx hj c2
      go_wp2_with fail
      refine (alloc_ok HJ.out.ra y Hlb.out).mono ?_
      rintro e w2 ⟨rfl, c3, s3, a3⟩
      rw [Hlen.out]
      have J3 := Lib.hid (HJ.out.arena s3 a3)
      have I3 := Lib.hid (HI.out.stp s3 (by omega))
      have S3 := Lib.hid (HS.out.trans (s3.mono (J' := JJ K) (fun _ h => .inr (.inr h))))
      clear s3 a3 c0 y0
      go_wp2_with (at_builtin; refine wpList_append_row _ rfl (.tmp 58) (.tmp 60) 38 rfl (paint c3 w2.heap.size (K + 4)) (K + 4) 3 (.int .i64 0) 1 8 Tryd.underlying38 Tryd.infoIntK rfl io j ic ((idsF la.length j).map (Value.int .i64)) rfl (I3.out.alloc _ (K + 4)) _ 1 [.int .i64 ((la.length + j : Nat) : Int)] rfl (Src.one _ _ _) (by simp [Value.oneCell']) d2.out d3.out ?_)
      rintro io4 ic4 w4 r4 s4 -
      have T4 := Lib.hid (((Stp.refl (· = K + 4) c3 w2).alloc (.cells #[.int .i64 ((la.length + j : Nat) : Int)] 3) (K + 4)).trans s4)
      have J4 := Lib.hid (J3.out.stp T4.out (by omega) (by omega) (by omega) (by omega) (by omega))
      have R4 := Lib.hid (show Row _ (K + 4) w4 3 1 io4 (j + 1) ic4 ((idsF la.length (j + 1)).map (Value.int .i64)) by rw [idsF_succ, List.map_append]; exact r4)
      have S4 := Lib.hid (S3.out.trans (T4.out.mono (J' := JJ K) (fun _ h => .inr (.inl h))))
      clear r4 s4
      go_wp2
      go_roundg (gk - 1)
      case rel => exact ⟨_, j + 1, io4, ic4, rfl, by rw [W1.out], Hj3.out.1, Lib.hid (by rw [Htk.out, ← List.append_assoc]; exact J4.out), R4, S4⟩
      case measure => exact Hj3.out.2
    · obtain rfl : j = n := by omega
      have g3 : ¬ (j : Int) < j := by omega
      clear hlt hj c0
      go_wp2_with fail
      refine (aadd_ok HJ.out.rm.ta Hl.out).mono ?_
      rintro e w2 ⟨rfl, c3, s3, t3⟩
      have J3 := Lib.hid (HJ.out.table s3 t3)
      have I3 := Lib.hid (HI.out.stp s3 (by omega))
      have S3 := Lib.hid (HS.out.trans (s3.mono (J' := JJ K) (fun _ h => .inl h)))
      clear s3 t3 c2
      go_wp2
      go_ret3
      refine ⟨io, ic, rfl, c3, S3.out, ?_, I3.out⟩
      have := J3.out
      rwa [List.take_of_length_le (by rw [Hxs.out]; exact Nat.le_refl _)] at this

/-- Join behind the last actor. -/
theorem rmjoin_full (h : RM c K w r ar ck tb rs la now tl l) (vo : Option Addr) (n cap : Nat) (hl : l.length = 64) :
    Calls Tryd.prog 17 #[.pointer (some ⟨r, 0, none⟩), .slice vo n cap] w fun e w' => ∃ t v, e = .returned (.tuple #[.int .i64 0, .slice none 0 0, .iface t v]) ∧ ∃ c', Stp (fun _ => False) c c' w w' ∧ ErrAt c' w' (.iface t v) 8 := by
  have c2 := h.rb.cell 2
  simp at c2
  have H := Lib.hid h
  have Hl := Lib.hid hl
  clear h hl
  go_enter Tryd.func17, Tryd.ntmps17
  go_wp2_with fail
  refine (alen_any H.out.ta).mono ?_
  rintro e w1 ⟨rfl, rfl⟩
  rw [Hl.out]
  go_wp2_with (go_at_call 36; refine (wrap_some _ _ _ _ _).mono ?_; rintro e w' ⟨rfl, rfl⟩)
  go_ret3
  exact ⟨_, _, rfl, _, (Stp.refl _ c w).alloc _ 1, ErrAt.new _ _ _ _ _⟩
end
end Go.Proofs.YtiphdedfbafhkaaDoor
