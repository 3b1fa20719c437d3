/- A try's Step, all cases in one. No condition beyond the contract's own. -/
import Derived.Test.YtoifknfmamcimaaDoorMul5
import Derived.Test.YtoifknfmamcimaaDoorMul5b
namespace Go.Proofs.YtoifknfmamcimaaDoor
open Go.RowKit

/-- The cells that a sequencer names are there. -/
structure SqOK (la : List Int) (S : Sq) : Prop where
  cu : S.cur < la.length
  ca : S.cac < la.length
  sh : S.sh < 21
  is : ∀ x ∈ S.ids, 0 ≤ x ∧ x < la.length
  il : (S.ids.length : Int) ≤ 1048576

/-- A try that may go on. -/
structure TrOK (la : List Int) (t : Tr) : Prop where
  hi : -1 ≤ t.hi ∧ t.hi ≤ 4611686018427387904
  is : ∀ x ∈ t.ids, 0 ≤ x ∧ x < la.length
  st : t.stage ≤ 6
  s2 : t.stage = 2 → t.ids ≠ []

/-- A try as a value. -/
@[reducible] def trV (p : Nat) (t : Tr) (ao : Option Addr) (cap : Nat) : Value :=
  .agg #[.pointer (some ⟨p, 0, none⟩), .int .i64 t.n, .int .i64 (t.stage : Int), .int .i64 t.claimed, .int .i64 t.hi, .slice ao t.ids.length cap, .int .i64 t.most]

theorem tr_w {sh : Nat} {hi : Int} (hs : sh < 21) (h : -1 ≤ hi ∧ hi ≤ 4611686018427387904) : wrap64 (hi - 2 ^ sh) = hi - 2 ^ sh :=
  IntWalk.wrap64_in _ (by have := two_pow_bd sh hs; constructor <;> omega)

section
variable {c : Nat → Nat} {K : Nat} {w : World} {p q bp gp : Nat} {S : Sq} {la : List Int} {t : Tr} {ao : Option Addr} {cap : Nat}
theorem tstep_c (ha : ArenaS c K w q la) (hB : SeqIs c (K + 1) w p q bp gp S) (hs : In c (K + 4) w 1 ao t.ids.length cap (t.ids.map (Value.int .i64))) (hok : SqOK la S) (ht : TrOK la t) (hf : t.stage < 5) (hK : 2 ≤ K) :
    Calls Tryd.prog 41 #[trV p t ao cap] w fun e w' => ∃ ao' cap' ev, e = .returned (.tuple #[trV p (stepT S la t).2.1 ao' cap', ev]) ∧ ∃ c', Stp (· = K) c c' w w' ∧ ArenaS c' K w' q (stepT S la t).1 ∧ In c' (K + 4) w' 1 ao' (stepT S la t).2.1.ids.length cap' ((stepT S la t).2.1.ids.map (Value.int .i64)) ∧
      (((stepT S la t).2.2 = 0 ∧ ev = .nilIface) ∨ ((stepT S la t).2.2 ≠ 0 ∧ ErrAt c' w' ev (stepT S la t).2.2)) := by
  obtain ⟨n, stage, claimed, hi, ids, most⟩ := t
  obtain ⟨hhi, his, hst, hs2⟩ := ht
  simp only at hhi his hst hs2 hf hs
  have hw := tr_w hok.sh hhi
  rcases (show stage = 0 ∨ stage = 1 ∨ stage = 2 ∨ stage = 3 ∨ stage = 4 by omega) with rfl | rfl | rfl | rfl | rfl
  · by_cases hn : nextErr (la.getD S.cur 0) n = 0
    · have e : stepT S la ⟨n, 0, claimed, hi, ids, most⟩ = (la, ⟨n, 1, la.getD S.cur 0, la.getD S.cur 0 + n, ids, most⟩, 0) := by
        rw [stepT, if_neg (by simp), if_pos rfl, if_neg (fun h => h hn)]
      rw [e]
      refine (ts_cur n claimed hi most ha hB hs hok.cu rfl hn).mono ?_
      rintro e w' ⟨rfl, c', h1, h2, h3⟩
      exact ⟨_, _, _, rfl, c', h1, h2, h3, .inl ⟨rfl, rfl⟩⟩
    · have e : stepT S la ⟨n, 0, claimed, hi, ids, most⟩ = (la, ⟨n, 0, claimed, hi, ids, most⟩, nextErr (la.getD S.cur 0) n) := by
        rw [stepT, if_neg (by simp), if_pos rfl, if_pos hn]
      rw [e]
      refine (ts_bad n claimed hi most ha hB hs hok.cu rfl hn hK).mono ?_
      rintro e w' ⟨ev, rfl, c', h1, h2, h3, h4⟩
      exact ⟨_, _, _, rfl, c', h1, h2, h3, .inr ⟨hn, h4⟩⟩
  · by_cases hen : hi - 2 ^ S.sh ≤ la.getD S.cac 0 ∧ la.getD S.cac 0 ≤ claimed
    · have e : stepT S la ⟨n, 1, claimed, hi, ids, most⟩ = (la, ⟨n, 4, claimed, hi, ids, most⟩, 0) := by
        rw [stepT, if_neg (by simp), if_neg (by simp), if_pos rfl, if_pos hen]
      rw [e]
      refine (ts_enough n claimed hi most ha hB hs hok.ca rfl hen.1 hen.2 hw).mono ?_
      rintro e w' ⟨rfl, c', h1, h2, h3⟩
      exact ⟨_, _, _, rfl, c', h1, h2, h3, .inl ⟨rfl, rfl⟩⟩
    · by_cases hid : S.ids = []
      · have e : stepT S la ⟨n, 1, claimed, hi, ids, most⟩ = (la, judgeT S ⟨n, 2, claimed, hi, [], claimed⟩, 0) := by
          rw [stepT, if_neg (by simp), if_neg (by simp), if_pos rfl, if_neg hen, if_pos hid]
        rw [e]
        by_cases hj : claimed < hi - 2 ^ S.sh
        · rw [show judgeT S ⟨n, 2, claimed, hi, [], claimed⟩ = ⟨n, 6, claimed, hi, [], claimed⟩ by rw [judgeT, if_pos hj]]
          refine (ts_scan_full n claimed hi most ha hB hs hok.ca rfl hen hw (N := 0) (by rw [hid]; rfl) (by decide) rfl hj).mono ?_
          rintro e w' ⟨ao', cap', rfl, c', h1, h2, h3⟩
          rw [hid] at h3
          exact ⟨_, _, _, rfl, c', h1, h2, h3, .inl ⟨rfl, rfl⟩⟩
        · rw [show judgeT S ⟨n, 2, claimed, hi, [], claimed⟩ = ⟨n, 3, claimed, hi, [], claimed⟩ by rw [judgeT, if_neg hj]]
          refine (ts_scan_keep n claimed hi most ha hB hs hok.ca rfl hen hw (N := 0) (by rw [hid]; rfl) (by decide) rfl hj).mono ?_
          rintro e w' ⟨ao', cap', rfl, c', h1, h2, h3⟩
          rw [hid] at h3
          exact ⟨_, _, _, rfl, c', h1, h2, h3, .inl ⟨rfl, rfl⟩⟩
      · have e : stepT S la ⟨n, 1, claimed, hi, ids, most⟩ = (la, ⟨n, 2, claimed, hi, S.ids, claimed⟩, 0) := by
          rw [stepT, if_neg (by simp), if_neg (by simp), if_pos rfl, if_neg hen, if_neg hid]
        rw [e]
        refine (ts_scan n claimed hi most ha hB hs hok.ca rfl hen hw (N := S.ids.length) rfl hok.il (List.length_pos_iff.2 hid)).mono ?_
        rintro e w' ⟨ao', cap', rfl, c', h1, h2, h3⟩
        exact ⟨_, _, _, rfl, c', h1, h2, h3, .inl ⟨rfl, rfl⟩⟩
  · obtain ⟨i, r, rfl⟩ : ∃ i r, ids = i :: r := by
      cases ids with
      | nil => exact absurd rfl (hs2 rfl)
      | cons i r => exact ⟨i, r, rfl⟩
    have hix := his i (List.mem_cons_self ..)
    by_cases hr : r = []
    · subst hr
      have e : stepT S la ⟨n, 2, claimed, hi, [i], most⟩ = (la, judgeT S ⟨n, 2, claimed, hi, [], min most (valAt la i)⟩, 0) := by
        rw [stepT, if_neg (by simp), if_neg (by simp), if_neg (by simp), if_pos rfl]; rfl
      rw [e]
      by_cases hj : min most (valAt la i) < hi - 2 ^ S.sh
      · rw [show judgeT S ⟨n, 2, claimed, hi, [], min most (valAt la i)⟩ = ⟨n, 6, claimed, hi, [], min most (valAt la i)⟩ by rw [judgeT, if_pos hj]]
        refine (ts_last_full n claimed hi most ha hB hs hix rfl hj hw).mono ?_
        rintro e w' ⟨ao', cap', rfl, c', h1, h2, h3⟩
        exact ⟨_, _, _, rfl, c', h1, h2, h3, .inl ⟨rfl, rfl⟩⟩
      · rw [show judgeT S ⟨n, 2, claimed, hi, [], min most (valAt la i)⟩ = ⟨n, 3, claimed, hi, [], min most (valAt la i)⟩ by rw [judgeT, if_neg hj]]
        refine (ts_last_keep n claimed hi most ha hB hs hix rfl hj hw).mono ?_
        rintro e w' ⟨ao', cap', rfl, c', h1, h2, h3⟩
        exact ⟨_, _, _, rfl, c', h1, h2, h3, .inl ⟨rfl, rfl⟩⟩
    · have e : stepT S la ⟨n, 2, claimed, hi, i :: r, most⟩ = (la, ⟨n, 2, claimed, hi, r, min most (valAt la i)⟩, 0) := by
        rw [stepT, if_neg (by simp), if_neg (by simp), if_neg (by simp), if_pos rfl, if_neg (by exact hr)]; rfl
      rw [e]
      refine (ts_more n claimed hi most ha hB hs hix (by have := List.length_pos_iff.2 hr; simp; omega)).mono ?_
      rintro e w' ⟨ao', cap', rfl, c', h1, h2, h3⟩
      exact ⟨_, _, _, rfl, c', h1, h2, h3, .inl ⟨rfl, rfl⟩⟩
  · have e : stepT S la ⟨n, 3, claimed, hi, ids, most⟩ = (la.set S.cac most, ⟨n, 4, claimed, hi, ids, most⟩, 0) := by
      simp [stepT]
    rw [e]
    refine (ts_store n claimed hi most ha hB hs hok.ca).mono ?_
    rintro e w' ⟨rfl, c', h1, h2, h3⟩
    exact ⟨_, _, _, rfl, c', h1, h2, h3, .inl ⟨rfl, rfl⟩⟩
  · by_cases ho : la.getD S.cur 0 = claimed
    · have e : stepT S la ⟨n, 4, claimed, hi, ids, most⟩ = (la.set S.cur hi, ⟨n, 5, claimed, hi, ids, most⟩, 0) := by
        rw [stepT, if_neg (by simp), if_neg (by simp), if_neg (by simp), if_neg (by simp), if_neg (by simp), if_pos ho]
      rw [e]
      refine (ts_swapy n claimed hi most ha hB hs hok.cu ho).mono ?_
      rintro e w' ⟨rfl, c', h1, h2, h3⟩
      exact ⟨_, _, _, rfl, c', h1, h2, h3, .inl ⟨rfl, rfl⟩⟩
    · have e : stepT S la ⟨n, 4, claimed, hi, ids, most⟩ = (la, ⟨n, 0, claimed, hi, ids, most⟩, 0) := by
        rw [stepT, if_neg (by simp), if_neg (by simp), if_neg (by simp), if_neg (by simp), if_neg (by simp), if_neg ho]
      rw [e]
      refine (ts_swapn n claimed hi most ha hB hs hok.cu ho).mono ?_
      rintro e w' ⟨rfl, c', h1, h2, h3⟩
      exact ⟨_, _, _, rfl, c', h1, h2, h3, .inl ⟨rfl, rfl⟩⟩
end
end Go.Proofs.YtoifknfmamcimaaDoor
