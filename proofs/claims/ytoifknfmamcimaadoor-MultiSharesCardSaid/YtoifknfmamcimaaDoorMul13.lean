/- Remaining, Gate, Cached of a sequencer; the arena's Alloc where its count is of no account. No condition beyond each contract's own. -/
import Derived.Test.YtoifknfmamcimaaDoorMul8
import Derived.Test.YtoifknfmamcimaaDoorPow4
namespace Go.Proofs.YtoifknfmamcimaaDoor
open Go.RowKit

theorem proom_any10 (k : Nat) (hk : k < 21) (cl le : Int) (w : World) :
    Calls Tryd.prog 79 #[.agg #[.int .i64 k], .int .i64 cl, .int .i64 le] w fun e w' => e = .returned (.int .i64 (roomOf (2 ^ k) cl le)) ∧ Below w.heap.size w w' := by
  by_cases h : cl < -1 ∨ 4611686018427387904 < cl ∨ le < -1 ∨ cl < le
  · refine (proom_out k cl le h w).mono fun e w' ⟨he, hb⟩ => ⟨?_, hb⟩
    rw [he, roomOf, if_pos h]
  · exact proom_in k hk cl le (by omega) (by omega) (by omega) (by omega) w

section
variable {c0 : Nat → Nat} {w0 : World} {K p q bp gp : Nat} {S : Sq} {la la' : List Int} {c c' : Nat → Nat} {w w' : World}
theorem PAt.least_c (h : PAt c0 w0 K p q bp gp S la c w) (v : Int) (hid : ∀ x ∈ S.ids, 0 ≤ x ∧ x < la.length) :
    Calls Tryd.prog 78 #[.pointer (some ⟨gp, 0, none⟩), .pointer (some ⟨q, 0, none⟩), .int .i64 v] w fun e w' => e = .returned (.tuple #[.int .i64 ((S.ids.map (valAt la)).foldl min v), .nilIface]) ∧ ∃ c', Hid (PAt c0 w0 K p q bp gp S la c' w') ∧ (w'.cell? ⟨p, 0, none⟩ = some (.pointer (some ⟨q, 0, none⟩)) ∧ w'.cell? ⟨p, 1, none⟩ = some (.int .i64 S.sh) ∧ w'.cell? ⟨p, 2, none⟩ = some (.int .i64 S.cur) ∧ w'.cell? ⟨p, 3, none⟩ = some (.int .i64 S.cac) ∧ w'.cell? ⟨p, 4, none⟩ = some (.pointer (some ⟨bp, 0, none⟩)) ∧ w'.cell? ⟨p, 5, none⟩ = some (.pointer (some ⟨gp, 0, none⟩)) ∧ p < w'.heap.size) := by
  refine (gleast_s h.sq.gr h.ar (by omega) hid v).mono ?_
  rintro e w' ⟨rfl, c', t, a⟩
  exact ⟨rfl, c', Lib.hid (h.are t a), (h.are t a).sq.cs⟩
end

section
variable {c : Nat → Nat} {K k : Nat} {w : World} {p q bp gp : Nat} {S : Sq} {la : List Int}
set_option maxRecDepth 100000 in
theorem mgate_ok (hB : SeqIs c k w p q bp gp S) : Calls Tryd.prog 46 #[.pointer (some ⟨p, 0, none⟩)] w fun e w' => e = .returned (.pointer (some ⟨gp, 0, none⟩)) ∧ w = w' := by
  obtain ⟨s0, s1, s2, s3, s4, s5, lp⟩ := hB.cs
  clear hB
  go_enter Tryd.func46, Tryd.ntmps46
  go_wp2
  go_ret
  exact ⟨rfl, rfl⟩
theorem mcached_ok (hB : SeqIs c k w p q bp gp S) : Calls Tryd.prog 52 #[.pointer (some ⟨p, 0, none⟩)] w fun e w' => e = .returned (.int .i64 S.cac) ∧ w = w' := by
  obtain ⟨s0, s1, s2, s3, s4, s5, lp⟩ := hB.cs
  clear hB
  go_enter Tryd.func52, Tryd.ntmps52
  go_wp2
  go_ret
  exact ⟨rfl, rfl⟩

set_option maxRecDepth 100000 in
theorem mremain_ok (ha : ArenaS c K w q la) (hB : SeqIs c (K + 1) w p q bp gp S) {v : Int} (hcu : S.cur < la.length) (hv : la.getD S.cur 0 = v) (hid : ∀ x ∈ S.ids, 0 ≤ x ∧ x < la.length) :
    Calls Tryd.prog 39 #[.pointer (some ⟨p, 0, none⟩)] w fun e w' => e = .returned (.tuple #[.int .i64 (roomOf (2 ^ S.sh) v ((S.ids.map (valAt la)).foldl min v)), .nilIface]) ∧ ∃ c', Stp (· = K) c c' w w' ∧ ArenaS c' K w' q la ∧ SeqIs c' (K + 1) w' p q bp gp S := by
  have R1 := Lib.hid (show PAt c w K p q bp gp S la c w from ⟨Stp.refl _ _ _, ha, hB⟩)
  have Hcu := Lib.hid hcu
  have Hv := Lib.hid hv
  have Hi := Lib.hid hid
  have Hsh := Lib.hid hB.bf.1
  obtain ⟨s0, s1, s2, s3, s4, s5, lp⟩ := hB.cs
  clear ha hB hcu hv hid
  go_enter Tryd.func39, Tryd.ntmps39
  go_upto_region 3 with fail
  go_region_held3 (fun w' => w'.cell? ⟨p, 0, none⟩ = some (.pointer (some ⟨q, 0, none⟩)) ∧ w'.cell? ⟨p, 1, none⟩ = some (.int .i64 S.sh) ∧ w'.cell? ⟨p, 2, none⟩ = some (.int .i64 S.cur) ∧ w'.cell? ⟨p, 3, none⟩ = some (.int .i64 S.cac) ∧ w'.cell? ⟨p, 4, none⟩ = some (.pointer (some ⟨bp, 0, none⟩)) ∧ w'.cell? ⟨p, 5, none⟩ = some (.pointer (some ⟨gp, 0, none⟩)))
    (first | exact ⟨by assumption, by assumption, by assumption, by assumption, by assumption, by assumption⟩ | go_keep)
    (first
      | (go_at_call 31; refine (PAt.load_c (by first | exact R1.out | exact R1.out.stpF (Stp.refl (fun _ => False) _ _).drew | exact R1.out.stpF ((Stp.refl (fun _ => False) _ _).drewN _)) (by exact Hcu.out) (by exact Hv.out)).mono ?_; rintro e w2 ⟨rfl, c2, R2, ⟨s0, s1, s2, s3, s4, s5, lp⟩⟩))
  go_upto_region 6 with fail
  go_region_held3 (fun w' => w'.cell? ⟨p, 0, none⟩ = some (.pointer (some ⟨q, 0, none⟩)) ∧ w'.cell? ⟨p, 1, none⟩ = some (.int .i64 S.sh) ∧ w'.cell? ⟨p, 2, none⟩ = some (.int .i64 S.cur) ∧ w'.cell? ⟨p, 3, none⟩ = some (.int .i64 S.cac) ∧ w'.cell? ⟨p, 4, none⟩ = some (.pointer (some ⟨bp, 0, none⟩)) ∧ w'.cell? ⟨p, 5, none⟩ = some (.pointer (some ⟨gp, 0, none⟩)))
    (first | exact ⟨by assumption, by assumption, by assumption, by assumption, by assumption, by assumption⟩ | go_keep)
    (first
      | (go_at_call 78; refine (PAt.least_c (by first | exact R2.out | exact R2.out.stpF (Stp.refl (fun _ => False) _ _).drew | exact R2.out.stpF ((Stp.refl (fun _ => False) _ _).drewN _)) v (by exact Hi.out)).mono ?_; rintro e w3 ⟨rfl, c3, R3, ⟨s0, s1, s2, s3, s4, s5, lp⟩⟩))
  obtain ⟨le, hle⟩ : ∃ le, le = (S.ids.map (valAt la)).foldl min v := ⟨_, rfl⟩
  have Hle := Lib.hid hle
  rw [← hle]
  clear hle
  go_wp2_with fail
  refine (proom_any10 S.sh Hsh.out v le _).mono ?_
  rintro e w4 ⟨rfl, b4⟩
  have T4 := Lib.hid (Stp.ofBelow (c := c3) b4 0)
  have R4 := Lib.hid (R3.out.stpF T4.out)
  clear b4
  go_wp2
  go_ret2
  exact ⟨by rw [← Hle.out]; rfl, _, R4.out.st, R4.out.ar, R4.out.sq⟩
end

theorem alloc_s {c : Nat → Nat} {k : Nat} {w : World} {p : Nat} {l : List Int} (h : ArenaS c k w p l) (v : Int) (hl : (l.length : Int) < 2097152) :
    Calls Tryd.prog 45 #[.pointer (some ⟨p, 0, none⟩), .int .i64 v] w fun e w' => e = .returned (.tuple #[.int .i64 (l.length : Int), .nilIface]) ∧ ∃ c', Stp (· = k) c c' w w' ∧ ArenaS c' k w' p (l ++ [v]) := by
  obtain ⟨s, h⟩ := h
  refine (alloc_ok h v hl).mono ?_
  rintro e w' ⟨rfl, c', t, a⟩
  exact ⟨rfl, c', t, s, a⟩
end Go.Proofs.YtoifknfmamcimaaDoor
