/- How a claim goes, in plain Lean: what a step keeps, and where all steps end. No condition beyond each law's own. -/
import Derived.Test.YtoifknfmamcimaaDoorMul10
namespace Go.Proofs.YtoifknfmamcimaaDoor
open Go.RowKit

theorem stepT_len (S : Sq) (la : List Int) (t : Tr) : (stepT S la t).1.length = la.length := by
  unfold stepT
  repeat' split
  all_goals first | rfl | exact List.length_set ..

theorem SqOK.len {la la' : List Int} {S : Sq} (h : SqOK la S) (hl : la'.length = la.length) : SqOK la' S :=
  ⟨by rw [hl]; exact h.cu, by rw [hl]; exact h.ca, h.sh, fun x hx => by rw [hl]; exact h.is x hx, h.il⟩
theorem TrOK.len {la la' : List Int} {t : Tr} (h : TrOK la t) (hl : la'.length = la.length) : TrOK la' t :=
  ⟨h.hi, fun x hx => by rw [hl]; exact h.is x hx, h.st, h.s2⟩
theorem TrOK.start {la : List Int} {n : Int} : TrOK la (Tr.start n) := ⟨by simp [Tr.start], (fun x hx => by cases hx), by simp [Tr.start], (fun h => by cases h)⟩

theorem nextErr_zero {v n : Int} (h : nextErr v n = 0) : 1 ≤ n ∧ n ≤ 1048576 ∧ -1 ≤ v ∧ v + n ≤ 4611686018427387904 := by
  unfold nextErr at h
  split at h
  · cases h
  · split at h
    · cases h
    · split at h
      · cases h
      · omega

theorem judge_ok {la : List Int} {S : Sq} {t : Tr} (h1 : -1 ≤ t.hi ∧ t.hi ≤ 4611686018427387904) (h2 : ∀ x ∈ t.ids, 0 ≤ x ∧ x < la.length) : TrOK la (judgeT S t) := by
  unfold judgeT
  refine ⟨h1, h2, ?_, ?_⟩
  · simp only; split <;> omega
  · simp only; split <;> intro h <;> omega

theorem TrOK.step {la : List Int} {S : Sq} {t : Tr} (hb : SqOK la S) (h : TrOK la t) : TrOK (stepT S la t).1 (stepT S la t).2.1 := by
  refine TrOK.len ?_ (stepT_len S la t)
  obtain ⟨h1, h2, h3, h4⟩ := h
  unfold stepT
  by_cases g5 : 5 ≤ t.stage
  · rw [if_pos g5]; exact ⟨h1, h2, h3, h4⟩
  rw [if_neg g5]
  by_cases g0 : t.stage = 0
  · rw [if_pos g0]
    split
    · exact ⟨h1, h2, h3, h4⟩
    · rename_i hn
      have hn' : nextErr (la.getD S.cur 0) t.n = 0 := Decidable.not_not.1 hn
      have := nextErr_zero hn'
      exact ⟨by simp only; omega, h2, by simp, by simp⟩
  rw [if_neg g0]
  by_cases g1 : t.stage = 1
  · rw [if_pos g1]
    split
    · exact ⟨h1, h2, by simp, by simp⟩
    · split
      · exact judge_ok h1 (fun x hx => by cases hx)
      · rename_i hi
        exact ⟨h1, hb.is, by simp, fun _ => hi⟩
  rw [if_neg g1]
  by_cases g2 : t.stage = 2
  · rw [if_pos g2]
    split
    · exact judge_ok h1 (fun x hx => by cases hx)
    · rename_i hi
      exact ⟨h1, fun x hx => h2 x (List.mem_of_mem_tail hx), by simp, fun _ => hi⟩
  rw [if_neg g2]
  by_cases g3 : t.stage = 3
  · rw [if_pos g3]; exact ⟨h1, h2, by simp, by simp⟩
  rw [if_neg g3]
  split <;> exact ⟨h1, h2, by simp, by simp⟩

/-- All steps of a claim: so many, and where they end; the last number is the error's. -/
inductive RunT (S : Sq) : List Int → Tr → Nat → List Int → Tr → Int → Prop
  | fin {la : List Int} {t : Tr} : 5 ≤ t.stage → RunT S la t 0 la t 0
  | err {la : List Int} {t : Tr} : t.stage < 5 → (stepT S la t).2.2 ≠ 0 → RunT S la t 1 (stepT S la t).1 (stepT S la t).2.1 (stepT S la t).2.2
  | step {la : List Int} {t : Tr} {n : Nat} {la' : List Int} {t' : Tr} {e : Int} : t.stage < 5 → (stepT S la t).2.2 = 0 → RunT S (stepT S la t).1 (stepT S la t).2.1 n la' t' e → RunT S la t (n + 1) la' t' e

theorem RunT.un {S : Sq} {la : List Int} {t : Tr} {n : Nat} {la' : List Int} {t' : Tr} {e : Int} (h : RunT S la t n la' t' e) :
    (5 ≤ t.stage ∧ n = 0 ∧ la' = la ∧ t' = t ∧ e = 0) ∨
    (t.stage < 5 ∧ (stepT S la t).2.2 ≠ 0 ∧ n = 1 ∧ la' = (stepT S la t).1 ∧ t' = (stepT S la t).2.1 ∧ e = (stepT S la t).2.2) ∨
    (t.stage < 5 ∧ (stepT S la t).2.2 = 0 ∧ ∃ m, n = m + 1 ∧ RunT S (stepT S la t).1 (stepT S la t).2.1 m la' t' e) := by
  cases h with
  | fin h => exact .inl ⟨h, rfl, rfl, rfl, rfl⟩
  | err h1 h2 => exact .inr (.inl ⟨h1, h2, rfl, rfl, rfl, rfl⟩)
  | step h1 h2 h3 => exact .inr (.inr ⟨h1, h2, _, rfl, h3⟩)

theorem RunT.step' {S : Sq} {la lb : List Int} {t u : Tr} {n : Nat} {la' : List Int} {t' : Tr} {e : Int} (h1 : t.stage < 5) (h2 : stepT S la t = (lb, u, 0)) (h3 : RunT S lb u n la' t' e) : RunT S la t (n + 1) la' t' e :=
  .step h1 (by rw [h2]) (by rw [h2]; exact h3)

/-- The end of a claim, when it is told how the judge's answer goes on. -/
theorem run_judge {S : Sq} {la : List Int} {t : Tr} (_hcu : S.cur < la.length) (hne : S.cac ≠ S.cur) (hv : la.getD S.cur 0 = t.claimed) :
    ∃ n t', t'.claimed = t.claimed ∧ ((t.most < t.hi - 2 ^ S.sh ∧ t'.stage = 6 ∧ RunT S la (judgeT S t) n la t' 0) ∨
      (¬ t.most < t.hi - 2 ^ S.sh ∧ t'.stage = 5 ∧ t'.hi = t.hi ∧ RunT S la (judgeT S t) n ((la.set S.cac t.most).set S.cur t.hi) t' 0)) := by
  obtain ⟨n, stage, claimed, hi, ids, most⟩ := t
  simp only at hv ⊢
  by_cases h : most < hi - 2 ^ S.sh
  · refine ⟨0, ⟨n, 6, claimed, hi, ids, most⟩, rfl, .inl ⟨h, rfl, ?_⟩⟩
    rw [judgeT, if_pos h]
    exact .fin (by simp)
  · refine ⟨2, ⟨n, 5, claimed, hi, ids, most⟩, rfl, .inr ⟨h, rfl, rfl, ?_⟩⟩
    rw [judgeT, if_neg h]
    refine RunT.step' (lb := la.set S.cac most) (u := ⟨n, 4, claimed, hi, ids, most⟩) (by simp) (by simp [stepT]) ?_
    refine RunT.step' (lb := (la.set S.cac most).set S.cur hi) (u := ⟨n, 5, claimed, hi, ids, most⟩) (by simp) ?_ (.fin (by simp))
    have : (la.set S.cac most).getD S.cur 0 = claimed := by
      rw [← hv]
      simp [List.getD, List.getElem?_set_ne hne]
    rw [stepT, if_neg (by simp), if_neg (by simp), if_neg (by simp), if_neg (by simp), if_neg (by simp), if_pos this]

theorem run_scan {S : Sq} {la : List Int} (hcu : S.cur < la.length) (hne : S.cac ≠ S.cur) : ∀ (ids : List Int) (t : Tr), t.stage = 2 → t.ids = ids → ids ≠ [] → la.getD S.cur 0 = t.claimed →
    ∃ n t', t'.claimed = t.claimed ∧ (((ids.map (valAt la)).foldl min t.most < t.hi - 2 ^ S.sh ∧ t'.stage = 6 ∧ RunT S la t n la t' 0) ∨
      (¬ (ids.map (valAt la)).foldl min t.most < t.hi - 2 ^ S.sh ∧ t'.stage = 5 ∧ t'.hi = t.hi ∧ RunT S la t n ((la.set S.cac ((ids.map (valAt la)).foldl min t.most)).set S.cur t.hi) t' 0))
  | [], _, _, _, h, _ => absurd rfl h
  | [x], t, h1, h2, _, hv => by
    obtain ⟨n, stage, claimed, hi, ids, most⟩ := t
    simp only at h1 h2 hv
    subst h1 h2
    obtain ⟨m, t', e1, h⟩ := run_judge (S := S) (la := la) (t := ⟨n, 2, claimed, hi, [], min most (valAt la x)⟩) hcu hne hv
    have hs : stepT S la ⟨n, 2, claimed, hi, [x], most⟩ = (la, judgeT S ⟨n, 2, claimed, hi, [], min most (valAt la x)⟩, 0) := by
      rw [stepT, if_neg (by simp), if_neg (by simp), if_neg (by simp), if_pos rfl]; rfl
    refine ⟨m + 1, t', e1, ?_⟩
    rcases h with ⟨a, b, r⟩ | ⟨a, b, b', r⟩
    · exact .inl ⟨a, b, RunT.step' (by simp) hs r⟩
    · exact .inr ⟨a, b, b', RunT.step' (by simp) hs r⟩
  | x :: y :: l, t, h1, h2, _, hv => by
    obtain ⟨n, stage, claimed, hi, ids, most⟩ := t
    simp only at h1 h2 hv
    subst h1 h2
    obtain ⟨m, t', e1, h⟩ := run_scan hcu hne (y :: l) ⟨n, 2, claimed, hi, y :: l, min most (valAt la x)⟩ rfl rfl (by simp) hv
    have hs : stepT S la ⟨n, 2, claimed, hi, x :: y :: l, most⟩ = (la, ⟨n, 2, claimed, hi, y :: l, min most (valAt la x)⟩, 0) := by
      rw [stepT, if_neg (by simp), if_neg (by simp), if_neg (by simp), if_pos rfl]; rfl
    refine ⟨m + 1, t', e1, ?_⟩
    rcases h with ⟨a, b, r⟩ | ⟨a, b, b', r⟩
    · exact .inl ⟨a, b, RunT.step' (by simp) hs r⟩
    · exact .inr ⟨a, b, b', RunT.step' (by simp) hs r⟩

/-- What Claim answers: the cells, the number, the error's number. -/
def claimR (S : Sq) (la : List Int) (n : Int) : List Int × Int × Int :=
  if n < 1 ∨ 2 ^ S.sh < n then (la, 0, 1)
  else if nextErr (la.getD S.cur 0) n ≠ 0 then (la, 0, nextErr (la.getD S.cur 0) n)
  else if la.getD S.cur 0 + n - 2 ^ S.sh ≤ la.getD S.cac 0 ∧ la.getD S.cac 0 ≤ la.getD S.cur 0 then (la.set S.cur (la.getD S.cur 0 + n), la.getD S.cur 0 + n, 0)
  else if (S.ids.map (valAt la)).foldl min (la.getD S.cur 0) < la.getD S.cur 0 + n - 2 ^ S.sh then (la, 0, 10)
  else ((la.set S.cac ((S.ids.map (valAt la)).foldl min (la.getD S.cur 0))).set S.cur (la.getD S.cur 0 + n), la.getD S.cur 0 + n, 0)

/-- The claim's end as Claim reads it. -/
theorem run_claim {S : Sq} {la : List Int} (n : Int) (hcu : S.cur < la.length) (hne : S.cac ≠ S.cur) (hn : ¬ (n < 1 ∨ 2 ^ S.sh < n)) :
    ∃ k t' e, RunT S la (Tr.start n) k (claimR S la n).1 t' e ∧ 0 < k ∧
      ((e ≠ 0 ∧ (claimR S la n).2 = (0, e)) ∨ (e = 0 ∧ t'.stage = 6 ∧ (claimR S la n).2 = (0, 10)) ∨ (e = 0 ∧ t'.stage = 5 ∧ (claimR S la n).2 = (t'.hi, 0))) := by
  unfold claimR
  rw [if_neg hn]
  by_cases h1 : nextErr (la.getD S.cur 0) n = 0
  · rw [if_neg (fun h => h h1)]
    have e0 : stepT S la (Tr.start n) = (la, ⟨n, 1, la.getD S.cur 0, la.getD S.cur 0 + n, [], 0⟩, 0) := by
      rw [Tr.start, stepT, if_neg (by simp), if_pos rfl, if_neg (fun h => h h1)]
    by_cases h2 : la.getD S.cur 0 + n - 2 ^ S.sh ≤ la.getD S.cac 0 ∧ la.getD S.cac 0 ≤ la.getD S.cur 0
    · rw [if_pos h2]
      refine ⟨3, ⟨n, 5, la.getD S.cur 0, la.getD S.cur 0 + n, [], 0⟩, 0, ?_, by omega, .inr (.inr ⟨rfl, rfl, rfl⟩)⟩
      refine RunT.step' (by simp [Tr.start]) e0 ?_
      refine RunT.step' (lb := la) (u := ⟨n, 4, la.getD S.cur 0, la.getD S.cur 0 + n, [], 0⟩) (by simp) ?_ ?_
      · rw [stepT, if_neg (by simp), if_neg (by simp), if_pos rfl, if_pos h2]
      · refine RunT.step' (lb := la.set S.cur (la.getD S.cur 0 + n)) (u := ⟨n, 5, la.getD S.cur 0, la.getD S.cur 0 + n, [], 0⟩) (by simp) ?_ (.fin (by simp))
        rw [stepT, if_neg (by simp), if_neg (by simp), if_neg (by simp), if_neg (by simp), if_neg (by simp), if_pos rfl]
    · rw [if_neg h2]
      by_cases h3 : S.ids = []
      · obtain ⟨m, t', e1, h⟩ := run_judge (S := S) (la := la) (t := ⟨n, 2, la.getD S.cur 0, la.getD S.cur 0 + n, [], la.getD S.cur 0⟩) hcu hne rfl
        have hs : stepT S la ⟨n, 1, la.getD S.cur 0, la.getD S.cur 0 + n, [], 0⟩ = (la, judgeT S ⟨n, 2, la.getD S.cur 0, la.getD S.cur 0 + n, [], la.getD S.cur 0⟩, 0) := by
          rw [stepT, if_neg (by simp), if_neg (by simp), if_pos rfl, if_neg h2, if_pos h3]
        rw [h3]
        simp only [List.map_nil, List.foldl_nil]
        rcases h with ⟨a, b, r⟩ | ⟨a, b, b', r⟩
        · rw [if_pos a]
          exact ⟨m + 2, t', 0, RunT.step' (by simp [Tr.start]) e0 (RunT.step' (by simp) hs r), by omega, .inr (.inl ⟨rfl, b, rfl⟩)⟩
        · rw [if_neg a]
          exact ⟨m + 2, t', 0, RunT.step' (by simp [Tr.start]) e0 (RunT.step' (by simp) hs r), by omega, .inr (.inr ⟨rfl, b, by rw [b']⟩)⟩
      · obtain ⟨m, t', e1, h⟩ := run_scan (S := S) (la := la) hcu hne S.ids ⟨n, 2, la.getD S.cur 0, la.getD S.cur 0 + n, S.ids, la.getD S.cur 0⟩ rfl rfl h3 rfl
        have hs : stepT S la ⟨n, 1, la.getD S.cur 0, la.getD S.cur 0 + n, [], 0⟩ = (la, ⟨n, 2, la.getD S.cur 0, la.getD S.cur 0 + n, S.ids, la.getD S.cur 0⟩, 0) := by
          rw [stepT, if_neg (by simp), if_neg (by simp), if_pos rfl, if_neg h2, if_neg h3]
        rcases h with ⟨a, b, r⟩ | ⟨a, b, b', r⟩
        · rw [if_pos a]
          exact ⟨m + 2, t', 0, RunT.step' (by simp [Tr.start]) e0 (RunT.step' (by simp) hs r), by omega, .inr (.inl ⟨rfl, b, rfl⟩)⟩
        · rw [if_neg a]
          exact ⟨m + 2, t', 0, RunT.step' (by simp [Tr.start]) e0 (RunT.step' (by simp) hs r), by omega, .inr (.inr ⟨rfl, b, by rw [b']⟩)⟩
  · rw [if_pos h1]
    have e0 : stepT S la (Tr.start n) = (la, Tr.start n, nextErr (la.getD S.cur 0) n) := by
      rw [Tr.start, stepT, if_neg (by simp), if_pos rfl, if_pos h1]
    have := RunT.err (S := S) (la := la) (t := Tr.start n) (by simp [Tr.start]) (by rw [e0]; exact h1)
    rw [e0] at this
    exact ⟨1, _, _, this, by omega, .inl ⟨h1, rfl⟩⟩
end Go.Proofs.YtoifknfmamcimaaDoor
