/- Claim in general, as one contract; a law's sequencer part of the way. No condition beyond each contract's own. -/
import Derived.Test.YtoifknfmamcimaaDoorMul12
import Derived.Test.YtoifknfmamcimaaDoorMul13
import Derived.Test.YtoifknfmamcimaaDoorMul9
namespace Go.Proofs.YtoifknfmamcimaaDoor
open Go.RowKit

theorem claimR_len (S : Sq) (la : List Int) (n : Int) : (claimR S la n).1.length = la.length := by
  unfold claimR
  repeat' split
  all_goals simp

theorem claimR_ok {S : Sq} {la : List Int} {n : Int} (hcu : S.cur < la.length) (h : (claimR S la n).2.2 = 0) : (claimR S la n).2.1 = la.getD S.cur 0 + n ∧ (claimR S la n).1.getD S.cur 0 = la.getD S.cur 0 + n ∧ 1 ≤ n ∧ n ≤ 2 ^ S.sh ∧ nextErr (la.getD S.cur 0) n = 0 := by
  unfold claimR at h ⊢
  by_cases h0 : n < 1 ∨ 2 ^ S.sh < n
  · rw [if_pos h0] at h; cases h
  rw [if_neg h0] at h ⊢
  by_cases h1 : nextErr (la.getD S.cur 0) n = 0
  · rw [if_neg (fun h => h h1)] at h ⊢
    have hg : ∀ l : List Int, l.length = la.length → ∀ v, (l.set S.cur v).getD S.cur 0 = v := fun l hl v => by simp [List.getD, hl, hcu]
    split at h
    · rename_i h2
      rw [if_pos h2]
      exact ⟨rfl, hg _ rfl _, by omega, by omega, h1⟩
    · rename_i h2
      rw [if_neg h2]
      split at h
      · cases h
      · rename_i h3
        rw [if_neg h3]
        exact ⟨rfl, hg _ (by simp) _, by omega, by omega, h1⟩
  · rw [if_pos h1] at h
    exact absurd h h1

theorem claimR_bad {S : Sq} {la : List Int} {n : Int} (h : (claimR S la n).2.2 ≠ 0) : (claimR S la n).1 = la ∧ (claimR S la n).2.1 = 0 := by
  unfold claimR at h ⊢
  by_cases h0 : n < 1 ∨ 2 ^ S.sh < n
  · rw [if_pos h0]; exact ⟨rfl, rfl⟩
  rw [if_neg h0] at h ⊢
  by_cases h1 : nextErr (la.getD S.cur 0) n = 0
  · rw [if_neg (fun h => h h1)] at h ⊢
    split at h
    · exact absurd rfl h
    · rename_i h2
      rw [if_neg h2]
      split at h
      · rename_i h3
        rw [if_pos h3]; exact ⟨rfl, rfl⟩
      · exact absurd rfl h
  · rw [if_pos h1]; exact ⟨rfl, rfl⟩

theorem claimR_which {S : Sq} {la : List Int} {n : Int} (h1 : 1 ≤ n) (hn : n ≤ 2 ^ S.sh → nextErr (la.getD S.cur 0) n = 0) : (2 ^ S.sh < n ∧ (claimR S la n).2.2 = 1) ∨ (n ≤ 2 ^ S.sh ∧ ((claimR S la n).2.2 = 0 ∨ (claimR S la n).2.2 = 10)) := by
  unfold claimR
  by_cases h0 : n < 1 ∨ 2 ^ S.sh < n
  · rw [if_pos h0]; exact .inl ⟨by omega, rfl⟩
  rw [if_neg h0, if_neg (fun h => h (hn (by omega)))]
  refine .inr ⟨by omega, ?_⟩
  split
  · exact .inl rfl
  · split
    · exact .inr rfl
    · exact .inl rfl

section
variable {c : Nat → Nat} {K : Nat} {w : World} {p q bp gp : Nat} {S : Sq} {la : List Int}
theorem mclaim_c (ha : ArenaS c K w q la) (hB : SeqIs c (K + 1) w p q bp gp S) (n : Int) (hok : SqOK la S) (hne : S.cac ≠ S.cur) (hK : 2 ≤ K) :
    Calls Tryd.prog 24 #[.pointer (some ⟨p, 0, none⟩), .int .i64 n] w fun e w' => ∃ ev, e = .returned (.tuple #[.int .i64 (claimR S la n).2.1, ev]) ∧ ∃ c', Stp (· = K) c c' w w' ∧ ArenaS c' K w' q (claimR S la n).1 ∧ SeqIs c' (K + 1) w' p q bp gp S ∧
      (((claimR S la n).2.2 = 0 ∧ ev = .nilIface) ∨ ((claimR S la n).2.2 ≠ 0 ∧ (∃ tt vv, ev = .iface tt vv) ∧ ErrAt c' w' ev (claimR S la n).2.2)) := by
  by_cases hn : n < 1 ∨ 2 ^ S.sh < n
  · refine (mclaim_bad hB n hn).mono ?_
    rintro e w' ⟨ev, rfl, c', t, he⟩
    have e1 : claimR S la n = (la, 0, 1) := by rw [claimR, if_pos hn]
    rw [e1]
    exact ⟨ev, rfl, c', t.mono (fun _ h => h.elim), ha.stp t id, hB.stp t id id id, .inr ⟨by simp, he.iface', he⟩⟩
  · obtain ⟨k, t', ef, hr, hk, h⟩ := run_claim (S := S) (la := la) n hok.cu hne hn
    refine (mclaim_run ha hB n (by omega) (by omega) hok hK hr).mono ?_
    rintro e w' ⟨x, ev, rfl, c', t, a', s', h'⟩
    rcases h with ⟨h1, h2⟩ | ⟨h1, h2, h3⟩ | ⟨h1, h2, h3⟩
    · rcases h' with ⟨g1, g2, g3⟩ | ⟨g1, g2, g3, g4⟩ | ⟨g1, g2, g3, g4⟩
      · subst g2
        exact ⟨ev, by rw [h2], c', t, a', s', .inr (by rw [h2]; exact ⟨g1, g3.iface', g3⟩)⟩
      · exact absurd g1 h1
      · exact absurd g1 h1
    · rcases h' with ⟨g1, g2, g3⟩ | ⟨g1, g2, g3, g4⟩ | ⟨g1, g2, g3, g4⟩
      · exact absurd h1 g1
      · subst g3
        exact ⟨ev, by rw [h3], c', t, a', s', .inr (by rw [h3]; exact ⟨by decide, g4.iface', g4⟩)⟩
      · omega
    · rcases h' with ⟨g1, g2, g3⟩ | ⟨g1, g2, g3, g4⟩ | ⟨g1, g2, g3, g4⟩
      · exact absurd h1 g1
      · omega
      · subst g3
        exact ⟨ev, by rw [h3], c', t, a', s', .inl (by rw [h3]; exact ⟨rfl, g4⟩)⟩
end

/-- A law's sequencer, part of the way: the arena, the sequencer; its first cell is the cursor's. -/
structure LAt (w0 : World) (p q bp gp sh : Nat) (la ids : List Int) (c : Nat → Nat) (w : World) : Prop where
  st : Stp (2 ≤ ·) (fun _ => 0) c w0 w
  ar : ArenaS c 2 w q la
  sq : SeqIs c 3 w p q bp gp ⟨sh, 0, 1, 2, ids⟩

/-- Its cells. -/
structure LOK (sh : Nat) (la ids : List Int) : Prop where
  lt : sh < 7
  le : 2 + 2 ^ sh + ids.length = la.length
  is : ∀ x ∈ ids, 0 ≤ x ∧ x < la.length
  il : ids.length ≤ 20

theorem LOK.len {sh : Nat} {la la' ids : List Int} (h : LOK sh la ids) (hl : la'.length = la.length) : LOK sh la' ids :=
  ⟨h.lt, by rw [hl]; exact h.le, fun x hx => by rw [hl]; exact h.is x hx, h.il⟩
theorem pow7 {sh : Nat} (h : sh < 7) : 1 ≤ 2 ^ sh ∧ 2 ^ sh ≤ 64 := by
  have h1 : 2 ^ sh ≤ 2 ^ 6 := Nat.pow_le_pow_right (by decide) (by omega)
  exact ⟨Nat.one_le_two_pow, h1⟩
theorem LOK.max {sh : Nat} {la ids : List Int} (h : LOK sh la ids) : la.length ≤ 86 ∧ 3 ≤ la.length := by
  have := pow7 h.lt
  have := h.le
  have := h.il
  omega
theorem LOK.sq {sh : Nat} {la ids : List Int} (h : LOK sh la ids) : SqOK la ⟨sh, 0, 1, 2, ids⟩ :=
  ⟨by have := h.max; simp only; omega, by have := h.max; simp only; omega, by have := h.lt; simp only; omega, h.is, by have := h.il; simp only; omega⟩
theorem LOK.add {sh : Nat} {la ids : List Int} (h : LOK sh la ids) (v : Int) (hi : ids.length < 20) : LOK sh (la ++ [v]) (ids ++ [(la.length : Int)]) :=
  ⟨h.lt, by have := h.le; simp; omega, fun x hx => by
    rcases List.mem_append.1 hx with h1 | h1
    · have := h.is x h1; simp; omega
    · simp at h1; subst h1; simp; omega, by simp; omega⟩

section
variable {w0 : World} {p q bp gp sh : Nat} {la ids : List Int} {c c' : Nat → Nat} {w w' : World}
theorem LAt.stpF (h : LAt w0 p q bp gp sh la ids c w) (t : Stp (fun _ => False) c c' w w') : LAt w0 p q bp gp sh la ids c' w' :=
  ⟨h.st.trans (t.mono fun _ h => h.elim), h.ar.stp t id, h.sq.stp t id id id⟩
theorem LAt.stp9 (h : LAt w0 p q bp gp sh la ids c w) (t : Stp (9 ≤ ·) c c' w w') : LAt w0 p q bp gp sh la ids c' w' :=
  ⟨h.st.trans (t.mono fun _ h => by omega), h.ar.stp t (by decide), h.sq.stp t (by decide) (by decide) (by decide)⟩
theorem LAt.tab (h : LAt w0 p q bp gp sh la ids c w) (ht : Tab w0) : Tab w ∧ c 1 = 0 :=
  ⟨ht.stp h.st (by decide), by rw [h.st.col _ (World.block_lt_of_cell? _ _ (ht 0 (by decide)))]⟩
theorem LAt.claim (h : LAt w0 p q bp gp sh la ids c w) (ok : LOK sh la ids) (n : Int) :
    Calls Tryd.prog 24 #[.pointer (some ⟨p, 0, none⟩), .int .i64 n] w fun e w' => ∃ ev, e = .returned (.tuple #[.int .i64 (claimR ⟨sh, 0, 1, 2, ids⟩ la n).2.1, ev]) ∧ ∃ c', Stp (· = 2) c c' w w' ∧ LAt w0 p q bp gp sh (claimR ⟨sh, 0, 1, 2, ids⟩ la n).1 ids c' w' ∧
      (((claimR ⟨sh, 0, 1, 2, ids⟩ la n).2.2 = 0 ∧ ev = .nilIface) ∨ ((claimR ⟨sh, 0, 1, 2, ids⟩ la n).2.2 ≠ 0 ∧ (∃ tt vv, ev = .iface tt vv) ∧ ErrAt c' w' ev (claimR ⟨sh, 0, 1, 2, ids⟩ la n).2.2)) := by
  refine (mclaim_c h.ar h.sq n ok.sq (by simp) (by decide)).mono ?_
  rintro e w' ⟨ev, rfl, c', t, a, s, g⟩
  exact ⟨ev, rfl, c', t, ⟨h.st.trans (t.up (by decide)), a, s⟩, g⟩
theorem LAt.store (h : LAt w0 p q bp gp sh la ids c w) (j : Nat) (v : Int) (hj : j < la.length) :
    Calls Tryd.prog 49 #[.pointer (some ⟨q, 0, none⟩), .int .i64 j, .int .i64 v] w fun e w' => e = .returned .nilIface ∧ ∃ c', Stp (· = 2) c c' w w' ∧ LAt w0 p q bp gp sh (la.set j v) ids c' w' := by
  refine (store_s h.ar j v hj).mono ?_
  rintro e w' ⟨rfl, c', t, a⟩
  exact ⟨rfl, c', t, h.st.trans (t.up (by decide)), a, h.sq.stp t (by decide) (by decide) (by decide)⟩
theorem LAt.load (h : LAt w0 p q bp gp sh la ids c w) (j : Nat) (hj : j < la.length) :
    Calls Tryd.prog 31 #[.pointer (some ⟨q, 0, none⟩), .int .i64 j] w fun e w' => e = .returned (.tuple #[.int .i64 (la.getD j 0), .nilIface]) ∧ ∃ c', Stp (· = 2) c c' w w' ∧ LAt w0 p q bp gp sh la ids c' w' := by
  refine (load_s h.ar j hj).mono ?_
  rintro e w' ⟨rfl, c', t, a⟩
  exact ⟨rfl, c', t, h.st.trans (t.up (by decide)), a, h.sq.stp t (by decide) (by decide) (by decide)⟩
theorem LAt.claimed (h : LAt w0 p q bp gp sh la ids c w) (ok : LOK sh la ids) :
    Calls Tryd.prog 43 #[.pointer (some ⟨p, 0, none⟩)] w fun e w' => e = .returned (.int .i64 (la.getD 0 0)) ∧ ∃ c', Stp (· = 2) c c' w w' ∧ LAt w0 p q bp gp sh la ids c' w' := by
  refine (mclaimed_ok h.ar h.sq ok.sq.cu rfl).mono ?_
  rintro e w' ⟨rfl, c', t, a, s⟩
  exact ⟨rfl, c', t, h.st.trans (t.up (by decide)), a, s⟩
theorem LAt.remain (h : LAt w0 p q bp gp sh la ids c w) (ok : LOK sh la ids) :
    Calls Tryd.prog 39 #[.pointer (some ⟨p, 0, none⟩)] w fun e w' => e = .returned (.tuple #[.int .i64 (roomOf (2 ^ sh) (la.getD 0 0) ((ids.map (valAt la)).foldl min (la.getD 0 0))), .nilIface]) ∧ ∃ c', Stp (· = 2) c c' w w' ∧ LAt w0 p q bp gp sh la ids c' w' := by
  refine (mremain_ok h.ar h.sq ok.sq.cu rfl ok.is).mono ?_
  rintro e w' ⟨rfl, c', t, a, s⟩
  exact ⟨rfl, c', t, h.st.trans (t.up (by decide)), a, s⟩
theorem LAt.alloc (h : LAt w0 p q bp gp sh la ids c w) (ok : LOK sh la ids) (v : Int) :
    Calls Tryd.prog 45 #[.pointer (some ⟨q, 0, none⟩), .int .i64 v] w fun e w' => e = .returned (.tuple #[.int .i64 (la.length : Int), .nilIface]) ∧ ∃ c', Stp (· = 2) c c' w w' ∧ LAt w0 p q bp gp sh (la ++ [v]) ids c' w' := by
  refine (alloc_s h.ar v (by have := ok.max; omega)).mono ?_
  rintro e w' ⟨rfl, c', t, a⟩
  exact ⟨rfl, c', t, h.st.trans (t.up (by decide)), a, h.sq.stp t (by decide) (by decide) (by decide)⟩
theorem LAt.gate (h : LAt w0 p q bp gp sh la ids c w) :
    Calls Tryd.prog 46 #[.pointer (some ⟨p, 0, none⟩)] w fun e w' => e = .returned (.pointer (some ⟨gp, 0, none⟩)) ∧ w = w' := mgate_ok h.sq
theorem LAt.add (h : LAt w0 p q bp gp sh la ids c w) (id : Nat) (hid : id ≤ 86) (hn : (id : Int) ∉ ids) (hl : ids.length < 20) :
    Calls Tryd.prog 47 #[.pointer (some ⟨gp, 0, none⟩), .int .i64 id] w fun e w' => e = .returned .nilIface ∧ ∃ c', Stp (· = 5) c c' w w' ∧ LAt w0 p q bp gp sh la (ids ++ [(id : Int)]) c' w' := by
  refine (gadd_ok h.sq.gr id (by unfold gaddErr; rw [if_neg (by omega), if_neg hn, if_neg (by simp only; omega)])).mono ?_
  rintro e w' ⟨rfl, c', t, g⟩
  exact ⟨rfl, c', t, h.st.trans (t.up (by decide)), h.ar.stp t (by decide), h.sq.st.stp t (by decide), h.sq.bf.stp t (by decide), g⟩
end
end Go.Proofs.YtoifknfmamcimaaDoor
