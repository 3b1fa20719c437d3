/- A law's claims on both sides, in plain Lean: what a step keeps. No condition beyond each law's own. -/
import Derived.Test.YtoifknfmamcimaaDoorMPb
import Derived.Test.YtoifknfmamcimaaDoorMul12
import Derived.Deep.RegionHeld3
import Derived.Great.BuildSlice
namespace Go.Proofs.YtoifknfmamcimaaDoor
open Go.RowKit

/-- A claim on both sides: how far it came; where its list lies; how many of those who hold back the document has read, of how many. -/
structure TT where
  t : Tr
  ao : Option Addr
  cap : Nat
  rd : Nat
  out : Nat

/-- What is so of a claim as long as it goes on. -/
structure TOK (sh N k : Nat) (la : List Int) (u : TT) : Prop where
  n : 1 ≤ u.t.n ∧ u.t.n ≤ 2 ^ sh
  ok : TrOK la u.t
  cl : 1 ≤ u.t.stage → u.t.stage ≤ 4 → -1 ≤ u.t.claimed ∧ u.t.claimed ≤ la.getD 0 0 ∧ u.t.hi = u.t.claimed + u.t.n
  s2 : u.t.stage = 2 → u.rd < u.out ∧ u.out ≤ k ∧ u.t.ids = (gids N u.out).drop u.rd ∧ u.t.most ≤ u.t.claimed ∧ ∀ i, i < k → (i < u.rd ∨ u.out ≤ i) → u.t.most ≤ (la.drop N).getD i 0
  s3 : u.t.stage = 3 → u.t.most ≤ u.t.claimed ∧ ∀ i, i < k → u.t.most ≤ (la.drop N).getD i 0

section
variable {sh N k : Nat} {la la' shown : List Int} {u : TT}
theorem TOK.mono (h : TOK sh N k la u) (hl : la'.length = la.length) (hc : la.getD 0 0 ≤ la'.getD 0 0) (hg : ∀ i, i < k → (la.drop N).getD i 0 ≤ (la'.drop N).getD i 0) : TOK sh N k la' u :=
  ⟨h.n, h.ok.len hl, fun a b => by have := h.cl a b; omega,
    fun a => by
      obtain ⟨h1, h2, h3, h4, h5⟩ := h.s2 a
      exact ⟨h1, h2, h3, h4, fun i hi ho => Int.le_trans (h5 i hi ho) (hg i hi)⟩,
    fun a => by
      obtain ⟨h1, h2⟩ := h.s3 a
      exact ⟨h1, fun i hi => Int.le_trans (h2 i hi) (hg i hi)⟩⟩

theorem getD_app {l : List Int} {v : Int} {i : Nat} (h : i < l.length) : (l ++ [v]).getD i 0 = l.getD i 0 := by simp [List.getD, List.getElem?_append_left h]
theorem getD_app_at {l : List Int} {v : Int} : (l ++ [v]).getD l.length 0 = v := by simp [List.getD]

theorem TOK.more (h : TOK sh N k la u) (hP : POK sh N la k shown) : TOK sh N (k + 1) (la ++ [la.getD 0 0]) u := by
  have h3 := hP.n3
  have hlen := hP.len
  have hd := hP.dl
  have e0 : (la ++ [la.getD 0 0]).getD 0 0 = la.getD 0 0 := getD_app (by omega)
  have eg : ∀ i, i < k → ((la ++ [la.getD 0 0]).drop N).getD i 0 = (la.drop N).getD i 0 := fun i hi => by
    rw [hP.drop_more]; exact getD_app (by omega)
  have ek : ((la ++ [la.getD 0 0]).drop N).getD k 0 = la.getD 0 0 := by
    rw [hP.drop_more]
    have := getD_app_at (l := la.drop N) (v := la.getD 0 0)
    rwa [hd] at this
  refine ⟨h.n, ⟨h.ok.hi, fun x hx => ?_, h.ok.st, h.ok.s2⟩, fun a b => by rw [e0]; exact h.cl a b, fun a => ?_, fun a => ?_⟩
  · have := h.ok.is x hx
    simp only [List.length_append, List.length_singleton]
    omega
  · obtain ⟨h1, h2, h3', h4, h5⟩ := h.s2 a
    refine ⟨h1, by omega, h3', h4, fun i hi ho => ?_⟩
    rcases Nat.lt_or_ge i k with hik | hik
    · rw [eg i hik]; exact h5 i hik ho
    · obtain rfl : i = k := by omega
      rw [ek]
      have := h.cl (by omega) (by omega)
      omega
  · obtain ⟨h1, h2⟩ := h.s3 a
    refine ⟨h1, fun i hi => ?_⟩
    rcases Nat.lt_or_ge i k with hik | hik
    · rw [eg i hik]; exact h2 i hik
    · obtain rfl : i = k := by omega
      rw [ek]
      have := h.cl (by omega) (by omega)
      omega

/-- A step on both sides. -/
def stepU (sh N k : Nat) (la : List Int) (u : TT) (ao : Option Addr) (cap : Nat) : TT :=
  ⟨(stepT ⟨sh, 0, 1, 2, gids N k⟩ la u.t).2.1, ao, cap,
    if u.t.stage = 1 ∧ ¬ (u.t.hi - 2 ^ sh ≤ la.getD 1 0 ∧ la.getD 1 0 ≤ u.t.claimed) then 0 else if u.t.stage = 2 then u.rd + 1 else u.rd,
    if u.t.stage = 1 ∧ ¬ (u.t.hi - 2 ^ sh ≤ la.getD 1 0 ∧ la.getD 1 0 ≤ u.t.claimed) then k else u.out⟩

theorem gids_drop_tail {N o a : Nat} (h : a < o) : ((gids N o).drop a).tail = (gids N o).drop (a + 1) ∧ ((gids N o).drop a).headD 0 = ((N + a : Nat) : Int) := by
  have hl : a < (gids N o).length := by rw [gids_len]; exact h
  rw [List.drop_eq_getElem_cons hl]
  refine ⟨rfl, ?_⟩
  have := gids_get (N := N) h
  rw [List.getD, List.getElem?_eq_getElem hl] at this
  exact this
theorem drop_nil_iff {N o a : Nat} (h : a < o) : (gids N o).drop (a + 1) = [] ↔ a + 1 = o := by
  rw [List.drop_eq_nil_iff, gids_len]; omega

theorem set1 {m : Int} (h : 3 ≤ N) (hl : 2 ≤ la.length) : (la.set 1 m).getD 0 0 = la.getD 0 0 ∧ (la.set 1 m).getD 1 0 = m ∧ (la.set 1 m).drop 2 = la.drop 2 ∧ (la.set 1 m).drop N = la.drop N := by
  match la, hl with
  | x :: y :: r, _ =>
    obtain ⟨M, rfl⟩ : ∃ M, N = M + 2 := ⟨N - 2, by omega⟩
    exact ⟨rfl, rfl, rfl, rfl⟩
theorem set0 {m : Int} (h : 3 ≤ N) (hl : 2 ≤ la.length) : (la.set 0 m).getD 0 0 = m ∧ (la.set 0 m).getD 1 0 = la.getD 1 0 ∧ (la.set 0 m).drop 2 = la.drop 2 ∧ (la.set 0 m).drop N = la.drop N := by
  match la, hl with
  | x :: y :: r, _ =>
    obtain ⟨M, rfl⟩ : ∃ M, N = M + 2 := ⟨N - 2, by omega⟩
    exact ⟨rfl, rfl, rfl, rfl⟩

theorem POK.each (hP : POK sh N la k shown) {x : Int} (h : ∀ i, i < k → x ≤ (la.drop N).getD i 0) : ∀ v ∈ la.drop N, x ≤ v := fun v hv => by
  obtain ⟨i, hi, rfl⟩ := List.mem_iff_getElem.1 hv
  have := h i (by rw [← hP.dl]; exact hi)
  rwa [List.getD, List.getElem?_eq_getElem hi] at this

/-- What a step of one claim keeps: of the cells, of itself; and what it does to the cells. -/
theorem TOK.step (hP : POK sh N la k shown) (h : TOK sh N k la u) (ao : Option Addr) (cap : Nat) :
    POK sh N (stepT ⟨sh, 0, 1, 2, gids N k⟩ la u.t).1 k shown ∧ TOK sh N k (stepT ⟨sh, 0, 1, 2, gids N k⟩ la u.t).1 (stepU sh N k la u ao cap) ∧
      (stepT ⟨sh, 0, 1, 2, gids N k⟩ la u.t).1.length = la.length ∧ la.getD 0 0 ≤ (stepT ⟨sh, 0, 1, 2, gids N k⟩ la u.t).1.getD 0 0 ∧ (stepT ⟨sh, 0, 1, 2, gids N k⟩ la u.t).1.drop N = la.drop N := by
  have hTR := h.ok.step (S := ⟨sh, 0, 1, 2, gids N k⟩) hP.ok.sq
  have h3 := hP.n3
  have hlen := hP.len
  obtain ⟨⟨n, stage, claimed, hi, ids, most⟩, ao0, cap0, a, o⟩ := u
  have hn := h.n
  have hcl := h.cl
  have hs2 := h.s2
  have hs3 := h.s3
  have hst := h.ok.st
  have hhi := h.ok.hi
  unfold stepU
  simp only at hn hcl hs2 hs3 hst hhi hTR ⊢
  rcases (show 5 ≤ stage ∨ stage = 0 ∨ stage = 1 ∨ stage = 2 ∨ stage = 3 ∨ stage = 4 by omega) with h5 | rfl | rfl | rfl | rfl | rfl
  · have e : stepT ⟨sh, 0, 1, 2, gids N k⟩ la ⟨n, stage, claimed, hi, ids, most⟩ = (la, ⟨n, stage, claimed, hi, ids, most⟩, 0) := by rw [stepT, if_pos h5]
    rw [e] at hTR ⊢
    exact ⟨hP, ⟨hn, hTR, fun a b => by simp only at a b; omega, fun a => by simp only at a; omega, fun a => by simp only at a; omega⟩, rfl, Int.le_refl _, rfl⟩
  · by_cases he : nextErr (la.getD 0 0) n = 0
    · have e : stepT ⟨sh, 0, 1, 2, gids N k⟩ la ⟨n, 0, claimed, hi, ids, most⟩ = (la, ⟨n, 1, la.getD 0 0, la.getD 0 0 + n, ids, most⟩, 0) := by
        rw [stepT, if_neg (by simp), if_pos rfl, if_neg (fun h => h he)]
      rw [e] at hTR ⊢
      exact ⟨hP, ⟨hn, hTR, fun _ _ => ⟨hP.cu.1, Int.le_refl _, rfl⟩, fun a => (by cases a), fun a => (by cases a)⟩, rfl, Int.le_refl _, rfl⟩
    · have e : stepT ⟨sh, 0, 1, 2, gids N k⟩ la ⟨n, 0, claimed, hi, ids, most⟩ = (la, ⟨n, 0, claimed, hi, ids, most⟩, nextErr (la.getD 0 0) n) := by
        rw [stepT, if_neg (by simp), if_pos rfl, if_pos he]
      rw [e] at hTR ⊢
      exact ⟨hP, ⟨hn, hTR, fun a => (by cases a), fun a => (by cases a), fun a => (by cases a)⟩, rfl, Int.le_refl _, rfl⟩
  · by_cases hen : hi - 2 ^ sh ≤ la.getD 1 0 ∧ la.getD 1 0 ≤ claimed
    · have e : stepT ⟨sh, 0, 1, 2, gids N k⟩ la ⟨n, 1, claimed, hi, ids, most⟩ = (la, ⟨n, 4, claimed, hi, ids, most⟩, 0) := by
        rw [stepT, if_neg (by simp), if_neg (by simp), if_pos rfl, if_pos hen]
      rw [e] at hTR ⊢
      exact ⟨hP, ⟨hn, hTR, fun _ _ => hcl (by decide) (by decide), fun a => (by cases a), fun a => (by cases a)⟩, rfl, Int.le_refl _, rfl⟩
    · have hc := hcl (by decide) (by decide)
      by_cases hk : k = 0
      · subst hk
        have e : stepT ⟨sh, 0, 1, 2, gids N 0⟩ la ⟨n, 1, claimed, hi, ids, most⟩ = (la, judgeT ⟨sh, 0, 1, 2, gids N 0⟩ ⟨n, 2, claimed, hi, [], claimed⟩, 0) := by
          rw [stepT, if_neg (by simp), if_neg (by simp), if_pos rfl, if_neg hen, if_pos (show gids N 0 = [] from rfl)]
        rw [e] at hTR ⊢
        refine ⟨hP, ⟨hn, hTR, fun _ _ => hc, fun a => ?_, fun _ => ⟨Int.le_refl _, fun i hi => absurd hi (Nat.not_lt_zero _)⟩⟩, rfl, Int.le_refl _, rfl⟩
        simp only [judgeT] at a
        split at a <;> cases a
      · have hne : gids N k ≠ [] := fun h => hk (by have := gids_len N k; rw [h] at this; exact this.symm)
        have e : stepT ⟨sh, 0, 1, 2, gids N k⟩ la ⟨n, 1, claimed, hi, ids, most⟩ = (la, ⟨n, 2, claimed, hi, gids N k, claimed⟩, 0) := by
          rw [stepT, if_neg (by simp), if_neg (by simp), if_pos rfl, if_neg hen, if_neg hne]
        rw [e] at hTR ⊢
        refine ⟨hP, ⟨hn, hTR, fun _ _ => hc, fun _ => ?_, fun a => (by cases a)⟩, rfl, Int.le_refl _, rfl⟩
        simp only [hen, not_false_eq_true, and_self, if_true]
        exact ⟨Nat.pos_of_ne_zero hk, Nat.le_refl _, rfl, Int.le_refl _, fun i hi ho => by omega⟩
  · have hc := hcl (by decide) (by decide)
    obtain ⟨g1, g2, g3, g4, g5⟩ := hs2 rfl
    obtain ⟨t1, t2⟩ := gids_drop_tail (N := N) g1
    have hv : valAt la (ids.headD 0) = (la.drop N).getD a 0 := by
      rw [g3, t2, valAt, Int.toNat_natCast]
      simp [List.getD, List.getElem?_drop]
    have htl : ids.tail = (gids N o).drop (a + 1) := by rw [g3, t1]
    by_cases hl : a + 1 = o
    · have hnil : ids.tail = [] := by rw [htl]; exact (drop_nil_iff g1).2 hl
      have e : stepT ⟨sh, 0, 1, 2, gids N k⟩ la ⟨n, 2, claimed, hi, ids, most⟩ = (la, judgeT ⟨sh, 0, 1, 2, gids N k⟩ ⟨n, 2, claimed, hi, [], min most (valAt la (ids.headD 0))⟩, 0) := by
        rw [stepT, if_neg (by simp), if_neg (by simp), if_neg (by simp), if_pos rfl, if_pos hnil]
      rw [e] at hTR ⊢
      refine ⟨hP, ⟨hn, hTR, fun _ _ => hc, fun b => ?_, fun _ => ⟨?_, fun i hi => ?_⟩⟩, rfl, Int.le_refl _, rfl⟩
      · simp only [judgeT] at b
        split at b <;> cases b
      · simp only [judgeT]; omega
      · simp only [judgeT]
        rw [hv]
        rcases Nat.lt_trichotomy i a with h | rfl | h
        · have := g5 i hi (.inl h); omega
        · omega
        · have := g5 i hi (.inr (by omega)); omega
    · have hne : ids.tail ≠ [] := by rw [htl]; exact fun h => hl ((drop_nil_iff g1).1 h)
      have e : stepT ⟨sh, 0, 1, 2, gids N k⟩ la ⟨n, 2, claimed, hi, ids, most⟩ = (la, ⟨n, 2, claimed, hi, ids.tail, min most (valAt la (ids.headD 0))⟩, 0) := by
        rw [stepT, if_neg (by simp), if_neg (by simp), if_neg (by simp), if_pos rfl, if_neg hne]
      rw [e] at hTR ⊢
      refine ⟨hP, ⟨hn, hTR, fun _ _ => hc, fun b => ?_, fun b => (by cases b)⟩, rfl, Int.le_refl _, rfl⟩
      simp only [show ((2 : Nat) = 1) = False from by simp, false_and, if_false, if_true]
      refine ⟨by omega, g2, htl, by omega, fun i hi ho => ?_⟩
      rw [hv]
      rcases ho with ho | ho
      · rcases Nat.lt_or_ge i a with h | h
        · have := g5 i hi (.inl h); omega
        · obtain rfl : i = a := by omega
          omega
      · have := g5 i hi (.inr ho); omega
  · have hc := hcl (by decide) (by decide)
    obtain ⟨g1, g2⟩ := hs3 rfl
    obtain ⟨q0, q1, q2, q3⟩ := set1 (la := la) (N := N) (m := most) h3.1 (by omega)
    have e : stepT ⟨sh, 0, 1, 2, gids N k⟩ la ⟨n, 3, claimed, hi, ids, most⟩ = (la.set 1 most, ⟨n, 4, claimed, hi, ids, most⟩, 0) := by
      rw [stepT, if_neg (by simp), if_neg (by simp), if_neg (by simp), if_neg (by simp), if_pos rfl]
    rw [e] at hTR ⊢
    have hcu := hP.cu
    refine ⟨hP.low (by simp) q2 (by rw [q0]; exact ⟨Int.le_refl _, hcu.2⟩) (by rw [q0, q1]; omega) (by rw [q1]; exact hP.each g2), ⟨hn, hTR, fun _ _ => by rw [q0]; exact hc, fun b => (by cases b), fun b => (by cases b)⟩, by simp, by rw [q0]; exact Int.le_refl _, q3⟩
  · have hc := hcl (by decide) (by decide)
    obtain ⟨q0, q1, q2, q3⟩ := set0 (la := la) (N := N) (m := hi) h3.1 (by omega)
    by_cases hq : la.getD 0 0 = claimed
    · have e : stepT ⟨sh, 0, 1, 2, gids N k⟩ la ⟨n, 4, claimed, hi, ids, most⟩ = (la.set 0 hi, ⟨n, 5, claimed, hi, ids, most⟩, 0) := by
        rw [stepT, if_neg (by simp), if_neg (by simp), if_neg (by simp), if_neg (by simp), if_neg (by simp), if_pos hq]
      rw [e] at hTR ⊢
      have hca := hP.ca
      refine ⟨hP.low (by simp) q2 (by rw [q0]; omega) (by rw [q0, q1]; omega) (by rw [q1]; exact fun v hv => (hP.gl v hv).1), ⟨hn, hTR, fun _ b => by simp only at b; omega, fun b => (by cases b), fun b => (by cases b)⟩, by simp, by rw [q0]; omega, q3⟩
    · have e : stepT ⟨sh, 0, 1, 2, gids N k⟩ la ⟨n, 4, claimed, hi, ids, most⟩ = (la, ⟨n, 0, claimed, hi, ids, most⟩, 0) := by
        rw [stepT, if_neg (by simp), if_neg (by simp), if_neg (by simp), if_neg (by simp), if_neg (by simp), if_neg hq]
      rw [e] at hTR ⊢
      exact ⟨hP, ⟨hn, hTR, fun a => (by cases a), fun a => (by cases a), fun a => (by cases a)⟩, rfl, Int.le_refl _, rfl⟩
end
end Go.Proofs.YtoifknfmamcimaaDoor

/- A step of a claim on both sides: the document's in one contract, the sequencer's. No condition beyond each contract's own. -/
namespace Go.Proofs.YtoifknfmamcimaaDoor
open Go.RowKit

/-- A claim's cells, as the document has them. -/
def TT.rc (u : TT) : List Value := [.int .i64 u.t.n, .int .i64 (u.t.stage : Int), .int .i64 u.t.claimed, .int .i64 u.t.hi, .int .i64 u.t.most, .int .i64 (u.rd : Int), .int .i64 (u.out : Int)]
/-- A claim's cells, as the sequencer has them. -/
def TT.lc (p : Nat) (u : TT) : List Value := cellsT p u.t u.ao u.cap
/-- The document's numbers. -/
def seqV (sl cl sn : Int) (go : Option Addr) (k gcap : Nat) (so : Option Addr) (ns scap : Nat) : List Value := [.int .i64 sl, .int .i64 cl, .int .i64 cl, .slice go k gcap, .int .i64 sn, .int .i64 0, .slice so ns scap]

end Go.Proofs.YtoifknfmamcimaaDoor

/- Who holds back is raised: the law's own function. No condition beyond the contract's own. -/
namespace Go.Proofs.YtoifknfmamcimaaDoor
open Go.RowKit

/-- What raising turns. -/
def JH (j : Nat) : Prop := j = 2 ∨ j = 10

section
variable {w0 : World} {p q bp gp sh N k cn id : Nat} {lb la shown : List Int} {x9 : Nat} {sl cl sn : Int} {gl : List Int} {icap gcap scap : Nat} {io go : Option Addr} {ia ga : Addr} {so : Option Addr} {c0 c : Nat → Nat} {wb w : World} {y : Int}
theorem raise_gate (hM : MB x9 sl cl sn gl (gids N k) shown k k (some ia) icap (some ga) gcap so scap c w) (hR : LAt w0 p q bp gp sh lb (gids N k) c w) (hi : id < gl.length) (v : Int) :
    Hid ((LAt w0 p q bp gp sh lb (gids N k) c (w.setCell (ga.add id) (.int .i64 v)).drew ∧ MB x9 sl cl sn (gl.set id v) (gids N k) shown k k (some ia) icap (some ga) gcap so scap c (w.setCell (ga.add id) (.int .i64 v)).drew) ∧ Stp JH c c w (w.setCell (ga.add id) (.int .i64 v)).drew) := by
  obtain ⟨m, t⟩ := hM.put_gate hi v
  exact Lib.hid ⟨⟨hR.stp9 (Stp.mono t.drew (fun _ h => by omega)), m.stpF (Stp.refl (fun _ => False) _ _).drew⟩, Stp.mono t.drew (fun _ h => .inr h)⟩
theorem raise_store (hR : LAt w0 p q bp gp sh lb (gids N k) c w) (hM : MB x9 sl cl sn gl (gids N k) shown k k (some ia) icap (some ga) gcap so scap c w) (hS : Stp JH c0 c wb w) (hi : id < k) (hl : gl.length = k) (hcn : cn = N + id) (hlt : cn < lb.length) (hy : gl.getD id 0 = y) {W : World} (hW : Stp (fun _ => False) c c w W) :
    Calls Tryd.prog 49 #[.pointer (some ⟨q, 0, none⟩), .int .i64 cn, .int .i64 y] W fun e w' => e = .returned .nilIface ∧ ∃ c', Hid ((LAt w0 p q bp gp sh (lb.set cn y) (gids N k) c' w' ∧ MB x9 sl cl sn gl (gids N k) shown k k (some ia) icap (some ga) gcap so scap c' w') ∧ Stp JH c0 c' wb w') ∧
      (w'.cell? (ia.add id) = some (.int .i64 (cn : Int)) ∧ w'.cell? ⟨x9, 3, none⟩ = some (.slice (some ga) k gcap) ∧ w'.cell? (ga.add id) = some (.int .i64 y)) := by
  refine ((hR.stpF hW).store cn y hlt).mono ?_
  rintro e w' ⟨rfl, c', t, r⟩
  have hM' := (hM.stpF hW).stp t (by decide) (by decide) (by decide) (by decide)
  exact ⟨rfl, c', Lib.hid ⟨⟨r, hM'⟩, (hS.trans (Stp.mono hW (fun _ h => h.elim))).trans (Stp.mono t (fun _ h => .inl h))⟩, hM'.hcells hi hl hcn hy⟩

/-- What one who was raised leaves of the claims. -/
def Raised (N k : Nat) (la la' : List Int) : Prop := la'.length = la.length ∧ la.getD 0 0 ≤ la'.getD 0 0 ∧ ∀ i, i < k → (la.drop N).getD i 0 ≤ (la'.drop N).getD i 0
theorem Raised.refl (la : List Int) : Raised N k la la := ⟨rfl, Int.le_refl _, fun _ _ => Int.le_refl _⟩
theorem Raised.set (hP : POK sh N lb k shown) (hi : id < k) (h0 : (lb.drop N).getD id 0 ≤ y) : Raised N k lb (lb.set (N + id) y) := by
  obtain ⟨e0, e1, e2⟩ := hP.hold_eq (i := id) y
  refine ⟨by simp, by rw [e0]; exact Int.le_refl _, fun i hik => ?_⟩
  rw [e2]
  by_cases h : id = i
  · subst h
    rw [getD_set (by rw [hP.dl]; exact hi)]
    exact h0
  · simp [List.getD, List.getElem?_set_ne h]
theorem TOK.raised {u : TT} (h : TOK sh N k la u) {la' : List Int} (r : Raised N k la la') : TOK sh N k la' u := h.mono r.1 r.2.1 r.2.2

set_option maxRecDepth 100000 in
set_option maxHeartbeats 4000000 in
theorem held_c (hR : LAt w0 p q bp gp sh lb (gids N k) c w) (hM : MB x9 (2 ^ sh) (lb.getD 0 0) (lb.getD 1 0) (lb.drop N) (gids N k) shown k k io icap go gcap so scap c w) (hP : POK sh N lb k shown) (xn : Int) :
    Calls Tryd.prog 44 #[.pointer (some ⟨q, 0, none⟩), .pointer (some ⟨x9, 0, none⟩), .slice io k icap, .int .i64 xn] w fun e w' => e = .returned (.bool true) ∧ ∃ c' lc, Stp JH c c' w w' ∧ POK sh N lc k shown ∧ Raised N k lb lc ∧ LAt w0 p q bp gp sh lc (gids N k) c' w' ∧
      MB x9 (2 ^ sh) (lc.getD 0 0) (lc.getD 1 0) (lc.drop N) (gids N k) shown k k io icap go gcap so scap c' w' := by
  have R6 := Lib.hid hR
  have M6 := Lib.hid hM
  have P := Lib.hid hP
  clear hR hM hP
  by_cases hk : 0 < k ∧ 0 ≤ xn
  · obtain ⟨hk0, hn0⟩ := hk
    obtain ⟨ix, hid, E1⟩ := hold_pick hn0 hk0
    obtain ⟨d7, hd7, E2⟩ := hold_seven hn0
    have HI := Lib.hid hid
    have HLT0 := Lib.hid (show N + ix < lb.length by have := P.out.len; omega)
    have HW := Lib.hid (P.out.hold_w hid hd7)
    have kz : ((k : Int) == 0) = false := by simp; omega
    have kn : decide (xn < 0) = false := by simpa using hn0
    have DL := Lib.hid P.out.dl
    obtain ⟨ga, hga, hgc, hgf, hgb⟩ := M6.out.gcell (i := ix) (by rw [DL.out]; exact hid)
    obtain ⟨ia, hia, hic⟩ := M6.out.icell (i := ix) (by rw [gids_len]; exact hid)
    subst hga hia
    obtain ⟨cn, hcn⟩ : ∃ cn, cn = N + ix := ⟨_, rfl⟩
    have CN := Lib.hid hcn
    have HLT := Lib.hid (show cn < lb.length by rw [hcn]; exact HLT0.out)
    rw [gids_get hid, ← hcn] at hic
    obtain ⟨⟨m0, m1, m2, m3, m4, m5, m6⟩, -, lm⟩ := M6.out.xs
    obtain ⟨g, hg⟩ : ∃ g, (lb.drop N).getD ix 0 = g := ⟨_, rfl⟩
    have HG := Lib.hid hg
    rw [hg] at hgc HW
    obtain ⟨z0, hz0⟩ : ∃ z, lb.getD 0 0 = z := ⟨_, rfl⟩
    have HZ := Lib.hid hz0
    rw [hz0] at m1 HW
    have v1 := HW.out.1
    have v2 : IntKind.i64.wrap (g + (d7 : Int)) = g + (d7 : Int) := (IntWalk.i64_left _).trans v1
    have hid1 : (ix : Int) < (k : Int) := by clear v1 v2; omega
    have hid0 : (0 : Int) ≤ (ix : Int) := by clear v1 v2; omega
    clear hz0 hg hcn hd7 hn0 hk0
    obtain ⟨y, hy⟩ : ∃ y : Int, (if g + (d7 : Int) < z0 then g + (d7 : Int) else z0) = y := ⟨_, rfl⟩
    have HY := Lib.hid (show g ≤ y ∧ y ≤ z0 by rw [← hy]; have := HW.out.2; clear v1 v2; split <;> omega)
    have HYE := Lib.hid hy
    clear hy
    have HL := Lib.hid (show ix < (lb.drop N).length by rw [DL.out]; exact HI.out)
    have HSL := Lib.hid (show ((lb.drop N).set ix y).length = k by rw [List.length_set]; exact DL.out)
    have HGY := Lib.hid (show ((lb.drop N).set ix y).getD ix 0 = y from getD_set HL.out)
    have HB1 := Lib.hid (show (lb.drop N).getD ix 0 ≤ y by rw [HG.out]; exact HY.out.1)
    have HB2 := Lib.hid (show y ≤ lb.getD 0 0 by rw [HZ.out]; exact HY.out.2)
    go_enter Tryd.func44, Tryd.ntmps44
    go_upto_region 4 with fail
    go_region
    rw [HYE.out]
    have RM := raise_gate M6.out R6.out HL.out y
    obtain ⟨wd, hwd⟩ : ∃ wd : World, wd = (w.setCell (ga.add ix) (.int .i64 y)).drew := ⟨_, rfl⟩
    rw [← hwd] at RM ⊢
    clear hwd hgc hgf hgb hic m0 m1 m2 m3 m4 m5 m6 lm v1 v2 E2 E1 HYE HY HG HZ HW DL
    obtain ⟨hic, m3, hgc⟩ := RM.out.1.2.hcells HI.out HSL.out CN.out HGY.out
    go_upto_region 5 with fail
    go_region_held3 (fun w' => w'.cell? (ia.add ix) = some (.int .i64 (cn : Int)) ∧ w'.cell? ⟨x9, 3, none⟩ = some (.slice (some ga) k gcap) ∧ w'.cell? (ga.add ix) = some (.int .i64 y))
      (first | exact ⟨by assumption, by assumption, by assumption⟩ | go_keep)
      (first
        | (go_at_call 49; refine (raise_store RM.out.1.1 RM.out.1.2 RM.out.2 HI.out HSL.out CN.out HLT.out HGY.out (by first | exact Stp.refl (fun _ => False) _ _ | exact (Stp.refl (fun _ => False) _ _).drew | exact (Stp.refl (fun _ => False) _ _).drewN _)).mono ?_; rintro e we ⟨rfl, ce, RE, hic, m3, hgc⟩))
    go_wp2
    go_ret
    obtain ⟨e0, e1, e2⟩ := P.out.hold_eq (i := ix) y
    have hlc : lb.set cn y = lb.set (N + ix) y := by rw [CN.out]
    have RR := RE.out
    rw [hlc] at RR
    exact ⟨by first | rfl | simp, ce, lb.set (N + ix) y, RR.2, P.out.hold HI.out HB1.out HB2.out, Raised.set P.out HI.out HB1.out, RR.1.1, by rw [e0, e1, e2]; exact RR.1.2⟩
  · have hc : ((k : Int) == 0) = true ∨ (((k : Int) == 0) = false ∧ decide (xn < 0) = true) := by
      by_cases h0 : k = 0
      · exact .inl (by simp [h0])
      · exact .inr ⟨by simp; omega, by simp; omega⟩
    clear hk
    rcases hc with k1 | ⟨k1, k2⟩
    all_goals
      go_enter Tryd.func44, Tryd.ntmps44
      go_wp2
      go_ret
      exact ⟨rfl, c, lb, Stp.refl _ _ _, P.out, Raised.refl _, R6.out, M6.out⟩
end
end Go.Proofs.YtoifknfmamcimaaDoor

/- A law's rows of claims, on both sides. No condition beyond each law's own. -/
namespace Go.Proofs.YtoifknfmamcimaaDoor
open Go.RowKit

theorem TT.lc_len (p : Nat) (u : TT) : (u.lc p).length = 7 := rfl
theorem TT.rc_len (u : TT) : u.rc.length = 7 := rfl

/-- The claims, as the law holds them on both sides; their lists. -/
structure TRows (p : Nat) (T : List TT) (lo : Option Addr) (lcap : Nat) (wo : Option Addr) (wcap : Nat) (c : Nat → Nat) (w : World) : Prop where
  lr : Row c 13 w 73 7 lo T.length lcap (T.flatMap (TT.lc p))
  wr : Row c 14 w 90 7 wo T.length wcap (T.flatMap TT.rc)
  is : ∀ u ∈ T, In c 6 w 1 u.ao u.t.ids.length u.cap (u.t.ids.map (Value.int .i64))

section
variable {p : Nat} {T : List TT} {lo wo : Option Addr} {lcap wcap : Nat} {c c' : Nat → Nat} {w w' : World}
theorem TRows.start (p : Nat) (c : Nat → Nat) (w : World) : TRows p [] none 0 none 0 c w := ⟨Row.nil _ _ _ _ _, Row.nil _ _ _ _ _, fun _ h => by cases h⟩
theorem TRows.stp {J : Nat → Prop} (h : TRows p T lo lcap wo wcap c w) (t : Stp J c c' w w') (h1 : ¬ J 13) (h2 : ¬ J 14) (h3 : ¬ J 6) : TRows p T lo lcap wo wcap c' w' :=
  ⟨h.lr.stp t h1, h.wr.stp t h2, fun u hu => (h.is u hu).stp t h3⟩
theorem TRows.stpF (h : TRows p T lo lcap wo wcap c w) (t : Stp (fun _ => False) c c' w w') : TRows p T lo lcap wo wcap c' w' := h.stp t id id id

/-- Seven cells of a row. -/
theorem Row.cells7 {k : Nat} {e : TypeId} {ao : Option Addr} {n cap : Nat} {α : Type} {enc : α → List Value} {l : List α} (hm : ∀ x, (enc x).length = 7) (h : Row c k w e 7 ao n cap (l.flatMap enc)) {i : Nat} {x : α} (hx : l[i]? = some x) {v0 v1 v2 v3 v4 v5 v6 : Value} (he : enc x = [v0, v1, v2, v3, v4, v5, v6]) :
    ∃ a : Addr, ao = some a ∧ a.spot = none ∧ c a.block = k ∧ a.block < w.heap.size ∧
      (w.cell? ⟨a.block, a.off + i * 7, none⟩ = some v0 ∧ w.cell? ⟨a.block, a.off + i * 7 + 1, none⟩ = some v1 ∧ w.cell? ⟨a.block, a.off + i * 7 + 2, none⟩ = some v2 ∧ w.cell? ⟨a.block, a.off + i * 7 + 3, none⟩ = some v3 ∧ w.cell? ⟨a.block, a.off + i * 7 + 4, none⟩ = some v4 ∧ w.cell? ⟨a.block, a.off + i * 7 + 5, none⟩ = some v5 ∧ w.cell? ⟨a.block, a.off + i * 7 + 6, none⟩ = some v6) ∧
      (w.frozen? ⟨a.block, a.off + i * 7, none⟩ = false ∧ w.frozen? ⟨a.block, a.off + i * 7 + 1, none⟩ = false ∧ w.frozen? ⟨a.block, a.off + i * 7 + 2, none⟩ = false ∧ w.frozen? ⟨a.block, a.off + i * 7 + 3, none⟩ = false ∧ w.frozen? ⟨a.block, a.off + i * 7 + 4, none⟩ = false ∧ w.frozen? ⟨a.block, a.off + i * 7 + 5, none⟩ = false ∧ w.frozen? ⟨a.block, a.off + i * 7 + 6, none⟩ = false) := by
  have hf : ∀ (j : Nat) (v : Value), (enc x)[j]? = some v → ∃ g off, ao = some ⟨g, off, none⟩ ∧ w.cell? ⟨g, off + (i * 7 + j), none⟩ = some v ∧ w.frozen? ⟨g, off + (i * 7 + j), none⟩ = false ∧ c g = k := fun j v hv => h.field hm hx hv
  rw [he] at hf
  obtain ⟨g, off, rfl, c0, z0, hc⟩ := hf 0 v0 rfl
  obtain ⟨_, _, e1, c1, z1, -⟩ := hf 1 v1 rfl
  obtain ⟨_, _, e2, c2, z2, -⟩ := hf 2 v2 rfl
  obtain ⟨_, _, e3, c3, z3, -⟩ := hf 3 v3 rfl
  obtain ⟨_, _, e4, c4, z4, -⟩ := hf 4 v4 rfl
  obtain ⟨_, _, e5, c5, z5, -⟩ := hf 5 v5 rfl
  obtain ⟨_, _, e6, c6, z6, -⟩ := hf 6 v6 rfl
  cases e1; cases e2; cases e3; cases e4; cases e5; cases e6
  refine ⟨⟨g, off, none⟩, rfl, rfl, hc, (show g < w.heap.size from World.block_lt_of_cell? w _ c0), ⟨c0, ?_, ?_, ?_, ?_, ?_, ?_⟩, z0, ?_, ?_, ?_, ?_, ?_, ?_⟩
  all_goals simp only [Nat.add_assoc]; assumption

theorem set7_get (F : List Value) (b : Nat) (hb : b + 7 ≤ F.length) (v0 v1 v2 v3 v4 v5 v6 : Value) {r : Nat} (hr : r < 7) :
    (((((((F.set b v0).set (b + 1) v1).set (b + 2) v2).set (b + 3) v3).set (b + 4) v4).set (b + 5) v5).set (b + 6) v6)[b + r]? = [v0, v1, v2, v3, v4, v5, v6][r]? := by
  rcases (show r = 0 ∨ r = 1 ∨ r = 2 ∨ r = 3 ∨ r = 4 ∨ r = 5 ∨ r = 6 by omega) with rfl | rfl | rfl | rfl | rfl | rfl | rfl
  · rw [List.getElem?_set_ne (by omega), List.getElem?_set_ne (by omega), List.getElem?_set_ne (by omega), List.getElem?_set_ne (by omega), List.getElem?_set_ne (by omega), List.getElem?_set_ne (by omega)]; exact List.getElem?_set_self (by omega)
  · rw [List.getElem?_set_ne (by omega), List.getElem?_set_ne (by omega), List.getElem?_set_ne (by omega), List.getElem?_set_ne (by omega), List.getElem?_set_ne (by omega), List.getElem?_set_self (by simp only [List.length_set]; omega)]; rfl
  · rw [List.getElem?_set_ne (by omega), List.getElem?_set_ne (by omega), List.getElem?_set_ne (by omega), List.getElem?_set_ne (by omega), List.getElem?_set_self (by simp only [List.length_set]; omega)]; rfl
  · rw [List.getElem?_set_ne (by omega), List.getElem?_set_ne (by omega), List.getElem?_set_ne (by omega), List.getElem?_set_self (by simp only [List.length_set]; omega)]; rfl
  · rw [List.getElem?_set_ne (by omega), List.getElem?_set_ne (by omega), List.getElem?_set_self (by simp only [List.length_set]; omega)]; rfl
  · rw [List.getElem?_set_ne (by omega), List.getElem?_set_self (by simp only [List.length_set]; omega)]; rfl
  · rw [List.getElem?_set_self (by simp only [List.length_set]; omega)]; rfl

/-- A row of seven cells a piece, one piece stored to anew. -/
theorem Row.put7 {k : Nat} {e : TypeId} {a : Addr} {n cap : Nat} {α : Type} {enc : α → List Value} {l : List α} (hm : ∀ x, (enc x).length = 7) (h : Row c k w e 7 (some a) n cap (l.flatMap enc)) {i : Nat} {x y : α} (hx : l[i]? = some x) {v0 v1 v2 v3 v4 v5 v6 : Value} (he : enc y = [v0, v1, v2, v3, v4, v5, v6]) :
    Row c k (((((((w.setCell ⟨a.block, a.off + i * 7, none⟩ v0).setCell ⟨a.block, a.off + i * 7 + 1, none⟩ v1).setCell ⟨a.block, a.off + i * 7 + 2, none⟩ v2).setCell ⟨a.block, a.off + i * 7 + 3, none⟩ v3).setCell ⟨a.block, a.off + i * 7 + 4, none⟩ v4).setCell ⟨a.block, a.off + i * 7 + 5, none⟩ v5).setCell ⟨a.block, a.off + i * 7 + 6, none⟩ v6) e 7 (some a) n cap ((l.set i y).flatMap enc) := by
  have hi : i < l.length := (List.getElem?_eq_some_iff.1 hx).1
  have hlen := flat_len enc 7 hm l
  have hb : i * 7 + 7 ≤ (l.flatMap enc).length := by rw [hlen]; omega
  have s0 := h.set (i * 7) v0 (by omega)
  have s1 := s0.set (i * 7 + 1) v1 (by simp only [List.length_set]; omega)
  have s2 := s1.set (i * 7 + 2) v2 (by simp only [List.length_set]; omega)
  have s3 := s2.set (i * 7 + 3) v3 (by simp only [List.length_set]; omega)
  have s4 := s3.set (i * 7 + 4) v4 (by simp only [List.length_set]; omega)
  have s5 := s4.set (i * 7 + 5) v5 (by simp only [List.length_set]; omega)
  have s6 := s5.set (i * 7 + 6) v6 (by simp only [List.length_set]; omega)
  have hE : (l.set i y).flatMap enc = ((((((((l.flatMap enc).set (i * 7) v0).set (i * 7 + 1) v1).set (i * 7 + 2) v2).set (i * 7 + 3) v3).set (i * 7 + 4) v4).set (i * 7 + 5) v5).set (i * 7 + 6) v6) := by
    apply List.ext_getElem?
    intro j
    have hl2 := flat_len enc 7 hm (l.set i y)
    rw [List.length_set] at hl2
    by_cases hj : j < l.length * 7
    · have hq : j / 7 < l.length := Nat.div_lt_of_lt_mul (by omega)
      have hj' : j = (j / 7) * 7 + j % 7 := by omega
      have hr : j % 7 < 7 := Nat.mod_lt _ (by decide)
      have hy' : (enc y)[j % 7]? = some ((enc y)[j % 7]'(by rw [hm]; exact hr)) := List.getElem?_eq_getElem _
      by_cases hqi : j / 7 = i
      · have g1 := flat_get enc 7 hm (j % 7) hr (l.set i y) i y (by rw [List.getElem?_set_self hi])
        rw [hj', hqi, g1, he]
        exact (set7_get _ _ hb v0 v1 v2 v3 v4 v5 v6 hr).symm
      · obtain ⟨z, hz⟩ : ∃ z, l[j / 7]? = some z := ⟨_, List.getElem?_eq_getElem hq⟩
        have g1 := flat_get enc 7 hm (j % 7) hr (l.set i y) (j / 7) z (by rw [List.getElem?_set_ne (fun h => hqi h.symm)]; exact hz)
        have g2 := flat_get enc 7 hm (j % 7) hr l (j / 7) z hz
        rw [← hj'] at g1 g2
        rw [g1, ← g2]
        rw [List.getElem?_set_ne (by omega), List.getElem?_set_ne (by omega), List.getElem?_set_ne (by omega), List.getElem?_set_ne (by omega), List.getElem?_set_ne (by omega), List.getElem?_set_ne (by omega), List.getElem?_set_ne (by omega)]
    · rw [List.getElem?_eq_none (by rw [hl2]; omega), List.getElem?_eq_none (by simp only [List.length_set]; rw [hlen]; omega)]
  rw [hE]
  simpa only [Nat.add_assoc] using s6
end

/-- What the law of claims holds, part of the way. -/
def TS (w0 : World) (x9 p q bp gp sh N L : Nat) (v10 v11 v12 : Value) (wr : World) : Prop :=
  ∃ (c : Nat → Nat) (k : Nat) (la : List Int) (io : Option Addr) (icap : Nat) (go : Option Addr) (gcap : Nat) (so : Option Addr) (scap : Nat) (T : List TT) (lo : Option Addr) (lcap : Nat) (wo : Option Addr) (wcap : Nat),
    v10 = .slice io k icap ∧ v11 = .slice lo T.length lcap ∧ v12 = .slice wo T.length wcap ∧ Hid (T.length ≤ L) ∧ Hid (POK sh N la k []) ∧ Hid (LAt w0 p q bp gp sh la (gids N k) c wr) ∧ Hid (MB x9 (2 ^ sh) (la.getD 0 0) (la.getD 1 0) (la.drop N) (gids N k) [] k k io icap go gcap so scap c wr) ∧ Hid (TRows p T lo lcap wo wcap c wr) ∧ Hid (∀ u ∈ T, TOK sh N k la u)
end Go.Proofs.YtoifknfmamcimaaDoor

/- A law's claims on both sides: all that is held in one; begun, stepped, laid back. No condition beyond each law's own. -/
namespace Go.Proofs.YtoifknfmamcimaaDoor
open Go.RowKit

/-- The sequencer, the document's numbers, the claims on both sides. -/
structure TA (w0 : World) (x9 p q bp gp sh N k : Nat) (la : List Int) (io : Option Addr) (icap : Nat) (go : Option Addr) (gcap : Nat) (so : Option Addr) (scap : Nat) (T : List TT) (lo : Option Addr) (lcap : Nat) (wo : Option Addr) (wcap : Nat) (c : Nat → Nat) (w : World) : Prop where
  r : LAt w0 p q bp gp sh la (gids N k) c w
  m : MB x9 (2 ^ sh) (la.getD 0 0) (la.getD 1 0) (la.drop N) (gids N k) [] k k io icap go gcap so scap c w
  q : TRows p T lo lcap wo wcap c w

section
variable {w0 : World} {x9 p q bp gp sh N k : Nat} {la la' : List Int} {io : Option Addr} {icap : Nat} {go : Option Addr} {gcap : Nat} {so : Option Addr} {scap : Nat} {T : List TT} {lo : Option Addr} {lcap : Nat} {wo : Option Addr} {wcap : Nat} {c c' : Nat → Nat} {w w' : World} {u : TT}
theorem TA.stpF (h : TA w0 x9 p q bp gp sh N k la io icap go gcap so scap T lo lcap wo wcap c w) (t : Stp (fun _ => False) c c' w w') : TA w0 x9 p q bp gp sh N k la io icap go gcap so scap T lo lcap wo wcap c' w' := ⟨h.r.stpF t, h.m.stpF t, h.q.stpF t⟩
theorem TA.ts (h : TA w0 x9 p q bp gp sh N k la io icap go gcap so scap T lo lcap wo wcap c w) {L : Nat} (hT : T.length ≤ L) (hP : POK sh N la k []) (hK : ∀ u ∈ T, TOK sh N k la u) : TS w0 x9 p q bp gp sh N L (.slice io k icap) (.slice lo T.length lcap) (.slice wo T.length wcap) w :=
  ⟨c, k, la, io, icap, go, gcap, so, scap, T, lo, lcap, wo, wcap, rfl, rfl, rfl, Lib.hid hT, Lib.hid hP, Lib.hid h.r, Lib.hid h.m, Lib.hid h.q, Lib.hid hK⟩

/-- A claim that is begun. -/
def TT.new (n : Int) : TT := ⟨Tr.start n, none, 0, 0, 0⟩
theorem TOK.new {n : Int} (h1 : 1 ≤ n) (h2 : n ≤ 2 ^ sh) : TOK sh N k la (TT.new n) :=
  ⟨⟨h1, h2⟩, TrOK.start, (fun a => absurd a (by simp [TT.new, Tr.start])), (fun a => absurd a (by simp [TT.new, Tr.start])), (fun a => absurd a (by simp [TT.new, Tr.start]))⟩
theorem TT.new_lc (p : Nat) (n : Int) : (TT.new n).lc p = [.pointer (some ⟨p, 0, none⟩), .int .i64 n, .int .i64 0, .int .i64 0, .int .i64 0, .slice none 0 0, .int .i64 0] := rfl
theorem TT.new_rc (n : Int) : (TT.new n).rc = [.int .i64 n, .int .i64 0, .int .i64 0, .int .i64 0, .int .i64 0, .int .i64 0, .int .i64 0] := rfl

theorem mtry_not {S : Sq} {kk : Nat} (hB : SeqIs c kk w p q bp gp S) (n : Int) (h : n < 1 ∨ 2 ^ S.sh < n) :
    Calls Tryd.prog 38 #[.pointer (some ⟨p, 0, none⟩), .int .i64 n] w fun e w' => ∃ et ev, e = .returned (.tuple #[.agg #[.pointer none, .int .i64 0, .int .i64 0, .int .i64 0, .int .i64 0, .slice none 0 0, .int .i64 0], .iface et ev]) ∧ ∃ c', Stp (fun _ => False) c c' w w' ∧ ErrAt c' w' (.iface et ev) 1 := by
  by_cases h1 : n < 1
  · exact mtry_low hB n h1
  · exact mtry_high hB n (by omega) (by omega)

/-- The rows, as the region of two appends has them. -/
theorem TA.g3 (h : TA w0 x9 p q bp gp sh N k la io icap go gcap so scap T lo lcap wo wcap c w) :
    G3 c w 13 14 (R0 13 73 7 lo T.length lcap (T.flatMap (TT.lc p))) (R0 14 90 7 wo T.length wcap (T.flatMap TT.rc)) x9 [.int .i64 (2 ^ sh), .int .i64 (la.getD 0 0), .int .i64 (la.getD 0 0), .slice go k gcap, .int .i64 (la.getD 1 0), .int .i64 0, .slice so 0 scap] 67 w :=
  ⟨by decide, by decide, by decide, by decide, by decide, R0.kp _ _ _ _ _ _ _, R0.kp _ _ _ _ _ _ _, c, Stp.refl _ _ _, h.q.lr, h.q.wr, h.m.mb⟩
theorem TA.append {w8 : World} (h : TA w0 x9 p q bp gp sh N k la io icap go gcap so scap T lo lcap wo wcap c w8) {u : TT} (hi : ∀ c w, In c 6 w 1 u.ao u.t.ids.length u.cap (u.t.ids.map (Value.int .i64))) {lo' wo' : Option Addr} {lcap' wcap' : Nat}
    (hG : G3 c w8 13 14 (R0 13 73 7 lo' (T.length + 1) lcap' (T.flatMap (TT.lc p) ++ u.lc p)) (R0 14 90 7 wo' (T.length + 1) wcap' (T.flatMap TT.rc ++ u.rc)) x9 [.int .i64 (2 ^ sh), .int .i64 (la.getD 0 0), .int .i64 (la.getD 0 0), .slice go k gcap, .int .i64 (la.getD 1 0), .int .i64 0, .slice so 0 scap] 67 w) :
    ∃ c', TA w0 x9 p q bp gp sh N k la io icap go gcap so scap (T ++ [u]) lo' lcap' wo' wcap' c' w := by
  obtain ⟨c', t, hl, hw, hm⟩ := hG.ex
  refine ⟨c', h.r.stp9 (t.mono fun _ hj => by omega), ⟨hm, h.m.gr.stp t (by decide), h.m.ir.stp t (by decide), h.m.sr.stp t (by decide)⟩, ?_, ?_, fun v hv => ?_⟩
  · have e : (T ++ [u]).flatMap (TT.lc p) = T.flatMap (TT.lc p) ++ u.lc p := by simp
    rw [e, List.length_append, List.length_singleton]
    exact hl
  · have e : (T ++ [u]).flatMap TT.rc = T.flatMap TT.rc ++ u.rc := by simp
    rw [e, List.length_append, List.length_singleton]
    exact hw
  · rcases List.mem_append.1 hv with hv | hv
    · exact (h.q.is v hv).stp t (by decide)
    · rw [List.mem_singleton] at hv
      subst hv
      exact hi _ _

/-- A claim's step, by the sequencer. -/
theorem ustep_c (h : LAt w0 p q bp gp sh la (gids N k) c w) (hP : POK sh N la k []) (hu : TOK sh N k la u) (hs : In c 6 w 1 u.ao u.t.ids.length u.cap (u.t.ids.map (Value.int .i64))) :
    Calls Tryd.prog 41 #[trV p u.t u.ao u.cap] w fun e w' => ∃ ao' cap' ev, e = .returned (.tuple #[trV p (stepT ⟨sh, 0, 1, 2, gids N k⟩ la u.t).2.1 ao' cap', ev]) ∧ ∃ c', Stp (· = 2) c c' w w' ∧ LAt w0 p q bp gp sh (stepT ⟨sh, 0, 1, 2, gids N k⟩ la u.t).1 (gids N k) c' w' ∧
      In c' 6 w' 1 ao' (stepT ⟨sh, 0, 1, 2, gids N k⟩ la u.t).2.1.ids.length cap' ((stepT ⟨sh, 0, 1, 2, gids N k⟩ la u.t).2.1.ids.map (Value.int .i64)) ∧ Err c' w' ev (stepT ⟨sh, 0, 1, 2, gids N k⟩ la u.t).2.2 := by
  by_cases h5 : u.t.stage < 5
  · refine (tstep_c h.ar h.sq hs hP.ok.sq hu.ok h5 (by decide)).mono ?_
    rintro e w' ⟨ao', cap', ev, rfl, c', t, a, i, g⟩
    exact ⟨ao', cap', ev, rfl, c', t, ⟨h.st.trans (t.up (by decide)), a, h.sq.stp t (by decide) (by decide) (by decide)⟩, i, g⟩
  · have e : stepT ⟨sh, 0, 1, 2, gids N k⟩ la u.t = (la, u.t, 0) := by rw [stepT, if_pos (by omega)]
    rw [e]
    refine (tstep_fin u.t.n (u.t.stage : Int) u.t.claimed u.t.hi u.ao u.t.ids.length u.cap u.t.most p (by simp; omega) c w).mono ?_
    rintro e w' ⟨rfl, c', t⟩
    exact ⟨_, _, _, rfl, c', Stp.mono t (fun _ h => h.elim), h.stpF t, hs.stp t id, .inl ⟨rfl, rfl⟩⟩

/-- Seven cells stored from an address on. -/
def put7w (w : World) (ad : Addr) (v0 v1 v2 v3 v4 v5 v6 : Value) : World :=
  ((((((w.setCell ad v0).setCell ⟨ad.block, ad.off + 1, none⟩ v1).setCell ⟨ad.block, ad.off + 2, none⟩ v2).setCell ⟨ad.block, ad.off + 3, none⟩ v3).setCell ⟨ad.block, ad.off + 4, none⟩ v4).setCell ⟨ad.block, ad.off + 5, none⟩ v5).setCell ⟨ad.block, ad.off + 6, none⟩ v6
theorem put7w_stp {kk : Nat} (w : World) (ad : Addr) (v0 v1 v2 v3 v4 v5 v6 : Value) (h : c ad.block = kk) : Stp (· = kk) c c w (put7w w ad v0 v1 v2 v3 v4 v5 v6) := by
  unfold put7w
  exact ((((((((Stp.refl (· = kk) c w).setCell v0 h).setCell (p := ⟨ad.block, ad.off + 1, none⟩) v1 h).setCell (p := ⟨ad.block, ad.off + 2, none⟩) v2 h).setCell (p := ⟨ad.block, ad.off + 3, none⟩) v3 h).setCell (p := ⟨ad.block, ad.off + 4, none⟩) v4 h).setCell (p := ⟨ad.block, ad.off + 5, none⟩) v5 h).setCell (p := ⟨ad.block, ad.off + 6, none⟩) v6 h)
theorem add_flat {a : Addr} (h : a.spot = none) (n : Nat) : a.add n = ⟨a.block, a.off + n, none⟩ := by
  obtain ⟨b, o, s⟩ := a
  simp only at h
  subst h
  unfold Addr.add
  split
  · rename_i h0; subst h0; rfl
  · rfl
theorem Row.put7a {kk : Nat} {e : TypeId} {a : Addr} {n cap : Nat} {α : Type} {enc : α → List Value} {l : List α} (hm : ∀ x, (enc x).length = 7) (h : Row c kk w e 7 (some a) n cap (l.flatMap enc)) {i : Nat} {x y : α} (hx : l[i]? = some x) {v0 v1 v2 v3 v4 v5 v6 : Value} (he : enc y = [v0, v1, v2, v3, v4, v5, v6]) :
    Row c kk (put7w w (a.add (i * 7)) v0 v1 v2 v3 v4 v5 v6) e 7 (some a) n cap ((l.set i y).flatMap enc) := by
  rw [add_flat h.2.2.2.1]
  exact h.put7 hm hx he
/-- Seven cells of a row, as the walk names them. -/
theorem Row.cells7a {kk : Nat} {e : TypeId} {ao : Option Addr} {n cap : Nat} {α : Type} {enc : α → List Value} {l : List α} (hm : ∀ x, (enc x).length = 7) (h : Row c kk w e 7 ao n cap (l.flatMap enc)) {i : Nat} {x : α} (hx : l[i]? = some x) {v0 v1 v2 v3 v4 v5 v6 : Value} (he : enc x = [v0, v1, v2, v3, v4, v5, v6]) :
    ∃ a : Addr, ao = some a ∧ c a.block = kk ∧ a.block < w.heap.size ∧
      (w.cell? (a.add (i * 7)) = some v0 ∧ w.cell? ⟨(a.add (i * 7)).block, (a.add (i * 7)).off + 1, none⟩ = some v1 ∧ w.cell? ⟨(a.add (i * 7)).block, (a.add (i * 7)).off + 2, none⟩ = some v2 ∧ w.cell? ⟨(a.add (i * 7)).block, (a.add (i * 7)).off + 3, none⟩ = some v3 ∧ w.cell? ⟨(a.add (i * 7)).block, (a.add (i * 7)).off + 4, none⟩ = some v4 ∧ w.cell? ⟨(a.add (i * 7)).block, (a.add (i * 7)).off + 5, none⟩ = some v5 ∧ w.cell? ⟨(a.add (i * 7)).block, (a.add (i * 7)).off + 6, none⟩ = some v6) ∧
      (w.frozen? (a.add (i * 7)) = false ∧ w.frozen? ⟨(a.add (i * 7)).block, (a.add (i * 7)).off + 1, none⟩ = false ∧ w.frozen? ⟨(a.add (i * 7)).block, (a.add (i * 7)).off + 2, none⟩ = false ∧ w.frozen? ⟨(a.add (i * 7)).block, (a.add (i * 7)).off + 3, none⟩ = false ∧ w.frozen? ⟨(a.add (i * 7)).block, (a.add (i * 7)).off + 4, none⟩ = false ∧ w.frozen? ⟨(a.add (i * 7)).block, (a.add (i * 7)).off + 5, none⟩ = false ∧ w.frozen? ⟨(a.add (i * 7)).block, (a.add (i * 7)).off + 6, none⟩ = false) := by
  obtain ⟨a, h1, h2, h3, h4, h5, h6⟩ := h.cells7 hm hx he
  exact ⟨a, h1, h3, h4, by rw [add_flat h2]; exact h5, by rw [add_flat h2]; exact h6⟩

/-- A step laid back: the document's numbers, the claim on both sides. -/
theorem TA.back {z0 z1 : Int} {gl : List Int} {i : Nat} {u u' : TT} {a b : Addr} (hr : LAt w0 p q bp gp sh la' (gids N k) c w) (hm : MB x9 (2 ^ sh) z0 z1 gl (gids N k) [] k k io icap go gcap so scap c w) (hq : TRows p T (some a) lcap (some b) wcap c w) (hT : T[i]? = some u)
    (hs : In c 6 w 1 u'.ao u'.t.ids.length u'.cap (u'.t.ids.map (Value.int .i64))) (hd : la'.drop N = gl) {l0 l1 l2 l3 l4 l5 l6 r0 r1 r2 r3 r4 r5 r6 : Value} (hl : u'.lc p = [l0, l1, l2, l3, l4, l5, l6]) (hc : u'.rc = [r0, r1, r2, r3, r4, r5, r6]) :
    TA w0 x9 p q bp gp sh N k la' io icap go gcap so scap (T.set i u') (some a) lcap (some b) wcap c
      (put7w (put7w (((((((w.setCell ⟨x9, 0, none⟩ (.int .i64 (2 ^ sh))).setCell ⟨x9, 1, none⟩ (.int .i64 (la'.getD 0 0))).setCell ⟨x9, 2, none⟩ (.int .i64 (la'.getD 0 0))).setCell ⟨x9, 3, none⟩ (.slice go k gcap)).setCell ⟨x9, 4, none⟩ (.int .i64 (la'.getD 1 0))).setCell ⟨x9, 5, none⟩ (.int .i64 0)).setCell ⟨x9, 6, none⟩ (.slice so 0 scap)) (a.add (i * 7)) l0 l1 l2 l3 l4 l5 l6) (b.add (i * 7)) r0 r1 r2 r3 r4 r5 r6) := by
  obtain ⟨m1, t1⟩ := hm.put7 (la'.getD 0 0) (la'.getD 1 0) hm.sr
  have ha : c (a.add (i * 7)).block = 13 := by rw [add_block]; exact hq.lr.2.2.2.2.1
  have hb : c (b.add (i * 7)).block = 14 := by rw [add_block]; exact hq.wr.2.2.2.2.1
  generalize (((((((w.setCell ⟨x9, 0, none⟩ (.int .i64 (2 ^ sh))).setCell ⟨x9, 1, none⟩ (.int .i64 (la'.getD 0 0))).setCell ⟨x9, 2, none⟩ (.int .i64 (la'.getD 0 0))).setCell ⟨x9, 3, none⟩ (.slice go k gcap)).setCell ⟨x9, 4, none⟩ (.int .i64 (la'.getD 1 0))).setCell ⟨x9, 5, none⟩ (.int .i64 0)).setCell ⟨x9, 6, none⟩ (.slice so 0 scap)) = w1 at m1 t1 ⊢
  have t2 := put7w_stp (c := c) w1 (a.add (i * 7)) l0 l1 l2 l3 l4 l5 l6 ha
  have t3 := put7w_stp (c := c) (put7w w1 (a.add (i * 7)) l0 l1 l2 l3 l4 l5 l6) (b.add (i * 7)) r0 r1 r2 r3 r4 r5 r6 hb
  have q1 := hq.stp t1 (by decide) (by decide) (by decide)
  have hl2 := (q1.lr.put7a (TT.lc_len p) hT hl).stp t3 (by decide)
  have hw2 := (q1.wr.stp t2 (by decide)).put7a TT.rc_len hT hc
  have ts : Stp (9 ≤ ·) c c w (put7w (put7w w1 (a.add (i * 7)) l0 l1 l2 l3 l4 l5 l6) (b.add (i * 7)) r0 r1 r2 r3 r4 r5 r6) := ((t1.mono (fun _ h => Nat.le_of_eq h.symm)).trans (t2.mono (fun _ h => by omega))).trans (t3.mono (fun _ h => by omega))
  refine ⟨hr.stp9 ts, ?_, by rw [List.length_set]; exact hl2, by rw [List.length_set]; exact hw2, fun v hv => ?_⟩
  · rw [hd]
    exact (m1.stp t2 (by decide) (by decide) (by decide) (by decide)).stp t3 (by decide) (by decide) (by decide) (by decide)
  · rcases List.mem_or_eq_of_mem_set hv with hv | rfl
    · exact ((q1.is v hv).stp t2 (by decide)).stp t3 (by decide)
    · exact ((hs.stp t1 (by decide)).stp t2 (by decide)).stp t3 (by decide)
end
end Go.Proofs.YtoifknfmamcimaaDoor

/- A claim's step on both sides: what its walk is made of. No condition beyond each law's own. -/
namespace Go.Proofs.YtoifknfmamcimaaDoor
open Go.RowKit

section
variable {P : Program} {L : List Oper} {Q : Exit → Act → World → Prop} {md : Region.Mode} {S : World → Prop}
theorem wpH_takeL {i : Nat} {oi : Oper} {v : Value} {n : Nat} {d : Array Bool} {a : Act} {w : World} (hi : nthO L i = some oi)
    (hs : Region.noSelect L.toArray = true) (hf : Region.free md L.toArray d i = true) (hr : (Region.ready md L.toArray d).contains i = true)
    (hQ : ∀ c a w, Q (.panic c) (a.put oi.dst v) w → Q (.panic c) a w) (hy : YieldsIf P L.toArray S oi v a) (hS : S w)
    (h : wpAnyH P md L.toArray Q S n (d.setIfInBounds i true) (a.put oi.dst v) w) : wpAnyH P md L.toArray Q S (n + 1) d a w :=
  wpAnyH_take ((nthO_eq L i).trans hi) hs hf hr hQ hy hS h
theorem readyH_consL {n : Nat} {d : Array Bool} {a : Act} {w : World} {i : Nat} {o : Oper} {rs : List Nat} (ho : nthO L i = some o)
    (h : ∀ K' : Act → World → Prop, Shut (∀ a w, S w → (S w → wpAnyH P md L.toArray Q S n (d.setIfInBounds i true) a w) → K' a w) → if Region.wanted o (yielded L.toArray a.tmps) = true then Oper.wp P o a w K' Q else K' (a.put o.dst undef) w)
    (hs : AllReadyH P md L.toArray Q S n d a w rs) : AllReadyH P md L.toArray Q S n d a w (i :: rs) := AllReadyH.cons ((nthO_eq L i).trans ho) h hs
end

/-- A region of a function's code, by its number. -/
def regionN (n : Nat) : Code → Option Code
  | .region i ops b => if i == n then some (.region i ops b) else none
  | .seq a b => match regionN n a with
    | some c => some c
    | none => regionN n b
  | .cond _ a b => match regionN n a with
    | some c => some c
    | none => regionN n b
  | .block _ c => regionN n c
  | .loop c => regionN n c
  | .scope c => regionN n c
  | _ => none

theorem act_cells {c : Nat → Nat} {k : Nat} {w : World} {p : Nat} {ty : TypeId} {v0 v1 v2 : Value} (h : Blk c k w p [v0, v1, v2] ty) : w.cell? ⟨p, 0, none⟩ = some v0 ∧ w.cell? ⟨p, 1, none⟩ = some v1 ∧ w.cell? ⟨p, 2, none⟩ = some v2 ∧ p < w.heap.size :=
  ⟨by simpa using h.cell 0, by simpa using h.cell 1, by simpa using h.cell 2, h.lt⟩

section
variable {P : Program} {ops : Array Oper} {o : Oper} {a : Act} {w : World} {K : Act → World → Prop} {Q : Exit → Act → World → Prop} {E : Prop}
theorem fill7 (v0 v1 v2 v3 v4 v5 v6 : Value) (C : Array Value) (hC : C.size = 7) : Instr.fill (fun i => some (i * 7, 7)) C [(0, .agg #[v0, v1, v2, v3, v4, v5, v6])] = some #[v0, v1, v2, v3, v4, v5, v6] := by
  obtain ⟨l⟩ := C
  match l, hC with
  | [_, _, _, _, _, _, _], _ => simp [Instr.fill, Value.cells]
/-- A new array of one struct of seven cells, as a step of a drawn region. -/
theorem step_bs7 (hg : o.guard = none) (t e : TypeId) (x : Operand) (ho : o.op = .buildSlice t 1 #[(0, x)]) (z : Value) (bytes : Nat) (hu : P.underlying t = some (.slice e)) (hinfo : (P.info? e).map (fun i => (i.zero, i.size, i.bytes)) = some (some z, 7, bytes))
    {v0 v1 v2 v3 v4 v5 v6 : Value} (hx : a.eval x = .agg #[v0, v1, v2, v3, v4, v5, v6]) (hK : K (a.put o.dst (.slice (some ⟨w.heap.size, 0, none⟩) 1 1)) (w.alloc (.cells #[v0, v1, v2, v3, v4, v5, v6] e))) :
    if Region.wanted o (yielded ops a.tmps) = true then Oper.wp P o a w K Q else E := by
  have hw : Region.wanted o (yielded ops a.tmps) = true := by simp [Region.wanted, hg]
  rw [if_pos hw]
  obtain ⟨i, hi, hz, hsize, hby⟩ := info_parts hinfo
  have hs : i.size = 7 := by omega
  refine wp_buildSlice t e 1 #[(0, x)] ho _ i z hu hi hz (by rw [hs]; decide) (by rw [hs]; decide) ?_ hK
  rw [hs]
  have he : ((#[(0, x)] : Array (Nat × Operand)).map fun (i, x) => (i, a.eval x)).toList = [(0, .agg #[v0, v1, v2, v3, v4, v5, v6])] := by simp [hx]
  rw [he]
  exact fill7 _ _ _ _ _ _ _ _ (by simp)
variable {c0 : Nat → Nat} {w0 : World} {ka kb : Nat} {B : (Nat → Nat) → World → Prop} {x9 : Nat} {L : List Value} {ty : TypeId}
theorem step_bsG (hg : o.guard = none) (t e : TypeId) (x : Operand) (ho : o.op = .buildSlice t 1 #[(0, x)]) (z : Value) (bytes : Nat) (hu : P.underlying t = some (.slice e)) (hinfo : (P.info? e).map (fun i => (i.zero, i.size, i.bytes)) = some (some z, 7, bytes))
    {e' : TypeId} {m : Nat} {ao : Option Addr} {n cap : Nat} {xs : List Value} {v0 v1 v2 v3 v4 v5 v6 : Value} (h : G3 c0 w0 ka kb (R0 ka e' m ao n cap xs) B x9 L ty w) (hx : a.eval x = .agg #[v0, v1, v2, v3, v4, v5, v6])
    (hK : ∀ b w', Hid (G3 c0 w0 ka kb (R1 ka e' m ao n cap xs b [v0, v1, v2, v3, v4, v5, v6]) B x9 L ty w') → K (a.put o.dst (.slice (some ⟨b, 0, none⟩) 1 1)) w') :
    if Region.wanted o (yielded ops a.tmps) = true then Oper.wp P o a w K Q else E :=
  step_bs7 hg t e x ho z bytes hu hinfo hx (hK _ _ (Lib.hid (h.b1 (news := #[v0, v1, v2, v3, v4, v5, v6]) rfl)))
end

/-- What the region that begins a claim on both sides loads. -/
def S23 (p : Nat) (xn : Int) (yb xb : Nat) (w : World) : Prop := (w.cell? ⟨yb, 0, none⟩ = some (.pointer (some ⟨p, 0, none⟩)) ∧ w.cell? ⟨yb, 1, none⟩ = some (.int .i64 xn) ∧ w.cell? ⟨yb, 2, none⟩ = some (.int .i64 0) ∧ w.cell? ⟨yb, 3, none⟩ = some (.int .i64 0) ∧ w.cell? ⟨yb, 4, none⟩ = some (.int .i64 0) ∧ w.cell? ⟨yb, 5, none⟩ = some (.slice none 0 0) ∧ w.cell? ⟨yb, 6, none⟩ = some (.int .i64 0)) ∧ w.cell? ⟨xb, 2, none⟩ = some (.int .i64 xn)
theorem s23 {c : Nat → Nat} {w9 w : World} {p yb xb x9 : Nat} {xn : Int} {u0 u1 : Value} {t1 t2 ty : TypeId} {A B : (Nat → Nat) → World → Prop} {L : List Value} (Y : Blk c 15 w9 yb [.pointer (some ⟨p, 0, none⟩), .int .i64 xn, .int .i64 0, .int .i64 0, .int .i64 0, .slice none 0 0, .int .i64 0] t1) (X : Blk c 15 w9 xb [u0, u1, .int .i64 xn] t2) (G : G3 c w9 13 14 A B x9 L ty w) : S23 p xn yb xb w := by
  obtain ⟨_, tg, -, -, -⟩ := G.ex
  exact ⟨cl_7 (Y.stp tg (by decide)), (act_cells (X.stp tg (by decide))).2.2.1⟩

section
variable {w0 : World} {x9 p q bp gp sh N k : Nat} {la la' : List Int} {io : Option Addr} {icap : Nat} {go : Option Addr} {gcap : Nat} {so : Option Addr} {scap : Nat} {T : List TT} {c c' : Nat → Nat} {w w' : World} {u : TT}
/-- A claim's step by the sequencer, what it gives under names of its own. -/
theorem ustep_d (h : LAt w0 p q bp gp sh la (gids N k) c w) (hP : POK sh N la k []) (hu : TOK sh N k la u) (hs : In c 6 w 1 u.ao u.t.ids.length u.cap (u.t.ids.map (Value.int .i64))) :
    Calls Tryd.prog 41 #[trV p u.t u.ao u.cap] w fun e w' => ∃ (la' : List Int) (n' : Int) (st' : Nat) (cl' hi' : Int) (ids' : List Int) (mo' : Int) (ao' : Option Addr) (m' cap' rd' out' : Nat) (er zs : Int) (ev : Value) (c' : Nat → Nat),
      e = .returned (.tuple #[.agg #[.pointer (some ⟨p, 0, none⟩), .int .i64 n', .int .i64 zs, .int .i64 cl', .int .i64 hi', .slice ao' m' cap', .int .i64 mo'], ev]) ∧
      Hid (zs = (st' : Int)) ∧ Hid (m' = ids'.length) ∧ Hid (stepT ⟨sh, 0, 1, 2, gids N k⟩ la u.t = (la', ⟨n', st', cl', hi', ids', mo'⟩, er) ∧ stepU sh N k la u ao' cap' = ⟨⟨n', st', cl', hi', ids', mo'⟩, ao', cap', rd', out'⟩) ∧
      Hid (POK sh N la' k []) ∧ Hid (TOK sh N k la' ⟨⟨n', st', cl', hi', ids', mo'⟩, ao', cap', rd', out'⟩) ∧ Hid (Raised N k la la') ∧ Hid (la'.drop N = la.drop N) ∧
      Hid (Stp (· = 2) c c' w w') ∧ Hid (LAt w0 p q bp gp sh la' (gids N k) c' w') ∧ Hid (In c' 6 w' 1 ao' m' cap' (ids'.map (Value.int .i64))) ∧ Hid (Err c' w' ev er) := by
  refine (ustep_c h hP hu hs).mono ?_
  rintro e w' ⟨ao', cap', ev, rfl, c', t, r, i, g⟩
  have STP := TOK.step hP hu ao' cap'
  have hU : stepU sh N k la u ao' cap' = ⟨(stepT ⟨sh, 0, 1, 2, gids N k⟩ la u.t).2.1, ao', cap', (stepU sh N k la u ao' cap').rd, (stepU sh N k la u ao' cap').out⟩ := rfl
  rcases hE : stepT ⟨sh, 0, 1, 2, gids N k⟩ la u.t with ⟨la', ⟨n', st', cl', hi', ids', mo'⟩, er⟩
  rw [hE] at STP r i g hU
  obtain ⟨rd', hrd⟩ : ∃ x, x = (stepU sh N k la u ao' cap').rd := ⟨_, rfl⟩
  obtain ⟨out', hout⟩ : ∃ x, x = (stepU sh N k la u ao' cap').out := ⟨_, rfl⟩
  rw [← hrd, ← hout] at hU
  rw [hU] at STP
  obtain ⟨p1, p2, p3, p4, p5⟩ := STP
  exact ⟨la', n', st', cl', hi', ids', mo', ao', ids'.length, cap', rd', out', er, _, ev, c', rfl, Lib.hid rfl, Lib.hid rfl, Lib.hid ⟨rfl, hU⟩, Lib.hid p1, Lib.hid p2, Lib.hid ⟨p3, p4, fun j _ => by simp only at p5; rw [p5]; exact Int.le_refl _⟩, Lib.hid p5, Lib.hid t, Lib.hid r, Lib.hid i, Lib.hid g⟩

/-- A box that is new, or none yet. -/
def BoxO (k : Nat) (w0 : World) : Option (Nat × List Value × TypeId) → (Nat → Nat) → World → Prop
  | none, _, _ => True
  | some (b, L, t), c, w => Blk c k w b L t ∧ w0.heap.size ≤ b
theorem BoxO.stp {k : Nat} {o : Option (Nat × List Value × TypeId)} {J : Nat → Prop} (h : BoxO k w0 o c w) (t : Stp J c c' w w') (hk : ¬ J k) : BoxO k w0 o c' w' := by
  match o, h with
  | none, _ => exact trivial
  | some (b, L, ty), h => exact ⟨h.1.stp t hk, h.2⟩
/-- Two boxes, what is old as it was. -/
structure D27 (ka kb : Nat) (c0 : Nat → Nat) (w0 : World) (A B : Option (Nat × List Value × TypeId)) (w : World) : Prop where
  ne : ka ≠ kb
  ex : ∃ c, Stp (fun _ => False) c0 c w0 w ∧ BoxO ka w0 A c w ∧ BoxO kb w0 B c w
section
variable {ka kb : Nat} {c0 : Nat → Nat} {A B : Option (Nat × List Value × TypeId)}
theorem D27.swap (h : D27 ka kb c0 w0 A B w) : D27 kb ka c0 w0 B A w := by
  obtain ⟨c, t, a, b⟩ := h.ex
  exact ⟨Ne.symm h.ne, c, t, b, a⟩
theorem D27.call (h : D27 ka kb c0 w0 A B w) {f : Nat} {args : Array Value} {E : Ending} (hc : ∀ c, Stp (fun _ => False) c0 c w0 w → Calls Tryd.prog f args w (fun e w' => e = E ∧ ∃ c', Stp (fun _ => False) c c' w w')) :
    Calls Tryd.prog f args w (fun e w' => e = E ∧ Hid (D27 ka kb c0 w0 A B w')) := by
  obtain ⟨c, t, a, b⟩ := h.ex
  refine (hc c t).mono ?_
  rintro e w' ⟨he, c', t'⟩
  exact ⟨he, Lib.hid ⟨h.ne, c', t.trans t', a.stp t' id, b.stp t' id⟩⟩
theorem D27.al (h : D27 ka kb c0 w0 none B w) {b : Nat} {L : Array Value} {ty : TypeId} (hb : b = w.heap.size) : D27 ka kb c0 w0 (some (b, L.toList, ty)) B (w.alloc (.cells L ty)) := by
  obtain ⟨c, t, -, h2⟩ := h.ex
  subst hb
  have t' := (Stp.refl (fun _ => False) c w).alloc (.cells L ty) ka
  refine ⟨h.ne, _, t.trans t', ⟨?_, t.size⟩, h2.stp t' id⟩
  have := Blk.new c ka w L.toList ty
  simpa using this
theorem D27.box {b : Nat} {L : List Value} {ty : TypeId} (h : D27 ka kb c0 w0 (some (b, L, ty)) B w) : (w.frozen? ⟨b, 0, none⟩ = false ∧ w.frozen? ⟨b, 1, none⟩ = false ∧ w.frozen? ⟨b, 2, none⟩ = false ∧ w.frozen? ⟨b, 3, none⟩ = false ∧ w.frozen? ⟨b, 4, none⟩ = false ∧ w.frozen? ⟨b, 5, none⟩ = false ∧ w.frozen? ⟨b, 6, none⟩ = false) ∧ b < w.heap.size := by
  obtain ⟨c, t, ⟨h1, -⟩, -⟩ := h.ex
  exact cl_f7 h1
theorem D27.cells {b : Nat} {v0 v1 v2 v3 v4 v5 v6 : Value} {ty : TypeId} (h : D27 ka kb c0 w0 (some (b, [v0, v1, v2, v3, v4, v5, v6], ty)) B w) : w.cell? ⟨b, 0, none⟩ = some v0 ∧ w.cell? ⟨b, 1, none⟩ = some v1 ∧ w.cell? ⟨b, 2, none⟩ = some v2 ∧ w.cell? ⟨b, 3, none⟩ = some v3 ∧ w.cell? ⟨b, 4, none⟩ = some v4 ∧ w.cell? ⟨b, 5, none⟩ = some v5 ∧ w.cell? ⟨b, 6, none⟩ = some v6 := by
  obtain ⟨c, t, ⟨h1, -⟩, -⟩ := h.ex
  exact cl_7 h1
/-- Seven cells stored to a block. -/
def put7b (w : World) (b : Nat) (v0 v1 v2 v3 v4 v5 v6 : Value) : World :=
  ((((((w.setCell ⟨b, 0, none⟩ v0).setCell ⟨b, 1, none⟩ v1).setCell ⟨b, 2, none⟩ v2).setCell ⟨b, 3, none⟩ v3).setCell ⟨b, 4, none⟩ v4).setCell ⟨b, 5, none⟩ v5).setCell ⟨b, 6, none⟩ v6
theorem put7b_blk {kk b : Nat} {u0 u1 u2 u3 u4 u5 u6 : Value} {ty : TypeId} (h : Blk c kk w b [u0, u1, u2, u3, u4, u5, u6] ty) (v0 v1 v2 v3 v4 v5 v6 : Value) : Blk c kk (put7b w b v0 v1 v2 v3 v4 v5 v6) b [v0, v1, v2, v3, v4, v5, v6] ty :=
  ((((((h.set 0 v0).set 1 v1).set 2 v2).set 3 v3).set 4 v4).set 5 v5).set 6 v6
theorem put7b_stp {J : Nat → Prop} {b : Nat} {w1 : World} (h : Stp J c c' w1 w) (v0 v1 v2 v3 v4 v5 v6 : Value) (hb : J (c' b)) : Stp J c c' w1 (put7b w b v0 v1 v2 v3 v4 v5 v6) := by
  unfold put7b
  exact ((((((h.setCell (p := ⟨b, 0, none⟩) v0 hb).setCell (p := ⟨b, 1, none⟩) v1 hb).setCell (p := ⟨b, 2, none⟩) v2 hb).setCell (p := ⟨b, 3, none⟩) v3 hb).setCell (p := ⟨b, 4, none⟩) v4 hb).setCell (p := ⟨b, 5, none⟩) v5 hb).setCell (p := ⟨b, 6, none⟩) v6 hb
theorem put7b_new {J : Nat → Prop} {b : Nat} {w1 : World} (h : Stp J c c' w1 w) (v0 v1 v2 v3 v4 v5 v6 : Value) (hb : w1.heap.size ≤ b) : Stp J c c' w1 (put7b w b v0 v1 v2 v3 v4 v5 v6) := by
  unfold put7b
  exact ((((((h.setNew (p := ⟨b, 0, none⟩) v0 hb).setNew (p := ⟨b, 1, none⟩) v1 hb).setNew (p := ⟨b, 2, none⟩) v2 hb).setNew (p := ⟨b, 3, none⟩) v3 hb).setNew (p := ⟨b, 4, none⟩) v4 hb).setNew (p := ⟨b, 5, none⟩) v5 hb).setNew (p := ⟨b, 6, none⟩) v6 hb
theorem D27.st {b : Nat} {u0 u1 u2 u3 u4 u5 u6 : Value} {ty : TypeId} (h : D27 ka kb c0 w0 (some (b, [u0, u1, u2, u3, u4, u5, u6], ty)) B w) (v0 v1 v2 v3 v4 v5 v6 : Value) : D27 ka kb c0 w0 (some (b, [v0, v1, v2, v3, v4, v5, v6], ty)) B (put7b w b v0 v1 v2 v3 v4 v5 v6) := by
  obtain ⟨c, t, ⟨h1, hb⟩, h2⟩ := h.ex
  exact ⟨h.ne, c, put7b_new t _ _ _ _ _ _ _ hb, ⟨put7b_blk h1 _ _ _ _ _ _ _, hb⟩, h2.stp (put7b_stp (Stp.refl (· = ka) c w) _ _ _ _ _ _ _ h1.1) (fun e => h.ne e.symm)⟩
theorem blk_there {kk b : Nat} {v0 v1 v2 v3 v4 v5 v6 : Value} {ty : TypeId} (h : Blk c kk w b [v0, v1, v2, v3, v4, v5, v6] ty) : w.there b 0 7 := fun j hj => by
  refine ⟨?_, h.free _⟩
  rw [h.cell]
  rcases (show j = 0 ∨ j = 1 ∨ j = 2 ∨ j = 3 ∨ j = 4 ∨ j = 5 ∨ j = 6 by omega) with rfl | rfl | rfl | rfl | rfl | rfl | rfl <;> rfl
/-- A store of seven cells, as a step of a drawn region. -/
theorem step_st7 {P : Program} {ops : Array Oper} {o : Oper} {a : Act} {K : Act → World → Prop} {Q : Exit → Act → World → Prop} {E : Prop} (hg : o.guard = none) (ty : TypeId) (x y : Operand) (ho : o.op = .store ty x y)
    {b off : Nat} {v0 v1 v2 v3 v4 v5 v6 : Value} (hx : a.eval x = .pointer (some ⟨b, off, none⟩)) (hy : a.eval y = .agg #[v0, v1, v2, v3, v4, v5, v6]) (ht : w.there b off 7) (hi : (P.info? ty).map (·.size) = some 7)
    (h1 : ∀ v ∈ [v0, v1, v2, v3, v4, v5, v6], v.oneCell' = true) (hK : K (a.put o.dst undef) (w.setCells b off [v0, v1, v2, v3, v4, v5, v6])) :
    if Region.wanted o (yielded ops a.tmps) = true then Oper.wp P o a w K Q else E := by
  have hw : Region.wanted o (yielded ops a.tmps) = true := by simp [Region.wanted, hg]
  rw [if_pos hw]
  exact wp_store_mid ty x y ho b off _ hx hy ht hi (all_oneCell_toArray h1) hK
theorem step_d27 {P : Program} {ops : Array Oper} {o : Oper} {a : Act} {K : Act → World → Prop} {Q : Exit → Act → World → Prop} {E : Prop} (hg : o.guard = none) (ty : TypeId) (x y : Operand) (ho : o.op = .store ty x y)
    {b : Nat} {u0 u1 u2 u3 u4 u5 u6 v0 v1 v2 v3 v4 v5 v6 : Value} {tt : TypeId} (h : D27 ka kb c0 w0 (some (b, [u0, u1, u2, u3, u4, u5, u6], tt)) B w) (hx : a.eval x = .pointer (some ⟨b, 0, none⟩)) (hy : a.eval y = .agg #[v0, v1, v2, v3, v4, v5, v6]) (hi : (P.info? ty).map (·.size) = some 7)
    (h1 : ∀ v ∈ [v0, v1, v2, v3, v4, v5, v6], v.oneCell' = true) (hK : ∀ w', Hid (D27 ka kb c0 w0 (some (b, [v0, v1, v2, v3, v4, v5, v6], tt)) B w') → K (a.put o.dst undef) w') :
    if Region.wanted o (yielded ops a.tmps) = true then Oper.wp P o a w K Q else E := by
  obtain ⟨c, t, ⟨hb, hl⟩, h2⟩ := h.ex
  exact step_st7 hg ty x y ho hx hy (blk_there hb) hi h1 (hK _ (Lib.hid (h.st v0 v1 v2 v3 v4 v5 v6)))
theorem D27.named (h : D27 ka kb c0 w0 A B w) : ∃ w', w' = w ∧ Hid (D27 ka kb c0 w0 A B w') := ⟨w, rfl, Lib.hid h⟩
theorem D27.start (hn : ka ≠ kb) (c0 : Nat → Nat) (w0 : World) : D27 ka kb c0 w0 none none w0.drew := ⟨hn, c0, (Stp.refl _ _ _).drew, trivial, trivial⟩
end

/-- What the document's step loads. -/
def S27 (x9 xb i : Nat) (b : Addr) (v0 v1 v2 v3 v4 v5 v6 r0 r1 r2 r3 r4 r5 r6 xi : Value) (w : World) : Prop :=
  (w.cell? ⟨x9, 0, none⟩ = some v0 ∧ w.cell? ⟨x9, 1, none⟩ = some v1 ∧ w.cell? ⟨x9, 2, none⟩ = some v2 ∧ w.cell? ⟨x9, 3, none⟩ = some v3 ∧ w.cell? ⟨x9, 4, none⟩ = some v4 ∧ w.cell? ⟨x9, 5, none⟩ = some v5 ∧ w.cell? ⟨x9, 6, none⟩ = some v6) ∧ w.cell? ⟨xb, 1, none⟩ = some xi ∧
  (w.cell? (b.add (i * 7)) = some r0 ∧ w.cell? ⟨(b.add (i * 7)).block, (b.add (i * 7)).off + 1, none⟩ = some r1 ∧ w.cell? ⟨(b.add (i * 7)).block, (b.add (i * 7)).off + 2, none⟩ = some r2 ∧ w.cell? ⟨(b.add (i * 7)).block, (b.add (i * 7)).off + 3, none⟩ = some r3 ∧ w.cell? ⟨(b.add (i * 7)).block, (b.add (i * 7)).off + 4, none⟩ = some r4 ∧ w.cell? ⟨(b.add (i * 7)).block, (b.add (i * 7)).off + 5, none⟩ = some r5 ∧ w.cell? ⟨(b.add (i * 7)).block, (b.add (i * 7)).off + 6, none⟩ = some r6)
theorem s27 {ka kb xb i cap : Nat} {n : Nat} {b : Addr} {e tm tx : TypeId} {A B : Option (Nat × List Value × TypeId)} {u0 u1 u2 v0 v1 v2 v3 v4 v5 v6 r0 r1 r2 r3 r4 r5 r6 : Value} (hm : Blk c 9 w0 x9 [v0, v1, v2, v3, v4, v5, v6] tm) (hx : Blk c 15 w0 xb [u0, u1, u2] tx) (hq : Row c 14 w0 e 7 (some b) n cap (T.flatMap TT.rc)) (hT : T[i]? = some u) (hr : u.rc = [r0, r1, r2, r3, r4, r5, r6]) (D : D27 ka kb c w0 A B w) :
    S27 x9 xb i b v0 v1 v2 v3 v4 v5 v6 r0 r1 r2 r3 r4 r5 r6 u1 w := by
  obtain ⟨c', t, -, -⟩ := D.ex
  obtain ⟨a, h1, -, -, h4, -⟩ := Row.cells7a TT.rc_len (hq.stp t id) hT hr
  cases h1
  exact ⟨cl_7 (hm.stp t id), (act_cells (hx.stp t id)).2.1, h4⟩

/-- The document's numbers and the claim, on both sides, before or behind their stores. -/
structure G30 (c : Nat → Nat) (w0 : World) (x9 : Nat) (L : List Value) (a : Addr) (n lcap : Nat) (LL : List Value) (b : Addr) (wcap : Nat) (RR : List Value) (w : World) : Prop where
  t : Stp (fun j => j = 9 ∨ j = 13 ∨ j = 14) c c w0 w
  m : Blk c 9 w x9 L 67
  l : Row c 13 w 73 7 (some a) n lcap LL
  r : Row c 14 w 90 7 (some b) n wcap RR
section
variable {L LL RR : List Value} {a b : Addr} {n lcap wcap i : Nat} {u' : TT}
theorem G30.pm {u0 u1 u2 u3 u4 u5 u6 : Value} (h : G30 c w0 x9 [u0, u1, u2, u3, u4, u5, u6] a n lcap LL b wcap RR w) (v0 v1 v2 v3 v4 v5 v6 : Value) : G30 c w0 x9 [v0, v1, v2, v3, v4, v5, v6] a n lcap LL b wcap RR (put7b w x9 v0 v1 v2 v3 v4 v5 v6) := by
  have t := put7b_stp (Stp.refl (· = 9) c w) v0 v1 v2 v3 v4 v5 v6 h.m.1
  exact ⟨h.t.trans (t.mono fun _ h => .inl h), put7b_blk h.m _ _ _ _ _ _ _, h.l.stp t (by decide), h.r.stp t (by decide)⟩
theorem G30.pl (h : G30 c w0 x9 L a n lcap (T.flatMap (TT.lc p)) b wcap RR w) (hT : T[i]? = some u) {v0 v1 v2 v3 v4 v5 v6 : Value} (he : u'.lc p = [v0, v1, v2, v3, v4, v5, v6]) :
    G30 c w0 x9 L a n lcap ((T.set i u').flatMap (TT.lc p)) b wcap RR (put7w w (a.add (i * 7)) v0 v1 v2 v3 v4 v5 v6) := by
  have t := put7w_stp (c := c) w (a.add (i * 7)) v0 v1 v2 v3 v4 v5 v6 (kk := 13) (by rw [add_block]; exact h.l.2.2.2.2.1)
  exact ⟨h.t.trans (t.mono fun _ h => .inr (.inl h)), h.m.stp t (by decide), h.l.put7a (TT.lc_len p) hT he, h.r.stp t (by decide)⟩
theorem G30.pr (h : G30 c w0 x9 L a n lcap LL b wcap (T.flatMap TT.rc) w) (hT : T[i]? = some u) {v0 v1 v2 v3 v4 v5 v6 : Value} (he : u'.rc = [v0, v1, v2, v3, v4, v5, v6]) :
    G30 c w0 x9 L a n lcap LL b wcap ((T.set i u').flatMap TT.rc) (put7w w (b.add (i * 7)) v0 v1 v2 v3 v4 v5 v6) := by
  have t := put7w_stp (c := c) w (b.add (i * 7)) v0 v1 v2 v3 v4 v5 v6 (kk := 14) (by rw [add_block]; exact h.r.2.2.2.2.1)
  exact ⟨h.t.trans (t.mono fun _ h => .inr (.inr h)), h.m.stp t (by decide), h.l.stp t (by decide), h.r.put7a TT.rc_len hT he⟩
/-- Seven cells that may be stored to. -/
def F7 (w : World) (ad : Addr) : Prop := (w.frozen? ad = false ∧ w.frozen? ⟨ad.block, ad.off + 1, none⟩ = false ∧ w.frozen? ⟨ad.block, ad.off + 2, none⟩ = false ∧ w.frozen? ⟨ad.block, ad.off + 3, none⟩ = false ∧ w.frozen? ⟨ad.block, ad.off + 4, none⟩ = false ∧ w.frozen? ⟨ad.block, ad.off + 5, none⟩ = false ∧ w.frozen? ⟨ad.block, ad.off + 6, none⟩ = false)
theorem G30.fl (h : G30 c w0 x9 L a n lcap (T.flatMap (TT.lc p)) b wcap RR w) (hT : T[i]? = some u) : ∃ v0 v1 v2 v3 v4 v5 v6, (w.cell? (a.add (i * 7)) = some v0 ∧ w.cell? ⟨(a.add (i * 7)).block, (a.add (i * 7)).off + 1, none⟩ = some v1 ∧ w.cell? ⟨(a.add (i * 7)).block, (a.add (i * 7)).off + 2, none⟩ = some v2 ∧ w.cell? ⟨(a.add (i * 7)).block, (a.add (i * 7)).off + 3, none⟩ = some v3 ∧ w.cell? ⟨(a.add (i * 7)).block, (a.add (i * 7)).off + 4, none⟩ = some v4 ∧ w.cell? ⟨(a.add (i * 7)).block, (a.add (i * 7)).off + 5, none⟩ = some v5 ∧ w.cell? ⟨(a.add (i * 7)).block, (a.add (i * 7)).off + 6, none⟩ = some v6) ∧ F7 w (a.add (i * 7)) ∧ (a.add (i * 7)).block < w.heap.size := by
  obtain ⟨a', h1, h2, h3, h4, h5⟩ := Row.cells7a (TT.lc_len p) h.l hT rfl
  cases h1
  exact ⟨_, _, _, _, _, _, _, h4, h5, by rw [add_block]; exact h3⟩
theorem G30.fr (h : G30 c w0 x9 L a n lcap LL b wcap (T.flatMap TT.rc) w) (hT : T[i]? = some u) : ∃ v0 v1 v2 v3 v4 v5 v6, (w.cell? (b.add (i * 7)) = some v0 ∧ w.cell? ⟨(b.add (i * 7)).block, (b.add (i * 7)).off + 1, none⟩ = some v1 ∧ w.cell? ⟨(b.add (i * 7)).block, (b.add (i * 7)).off + 2, none⟩ = some v2 ∧ w.cell? ⟨(b.add (i * 7)).block, (b.add (i * 7)).off + 3, none⟩ = some v3 ∧ w.cell? ⟨(b.add (i * 7)).block, (b.add (i * 7)).off + 4, none⟩ = some v4 ∧ w.cell? ⟨(b.add (i * 7)).block, (b.add (i * 7)).off + 5, none⟩ = some v5 ∧ w.cell? ⟨(b.add (i * 7)).block, (b.add (i * 7)).off + 6, none⟩ = some v6) ∧ F7 w (b.add (i * 7)) ∧ (b.add (i * 7)).block < w.heap.size := by
  obtain ⟨b', h1, h2, h3, h4, h5⟩ := Row.cells7a TT.rc_len h.r hT rfl
  cases h1
  exact ⟨_, _, _, _, _, _, _, h4, h5, by rw [add_block]; exact h3⟩
theorem G30.start {z0 z1 : Int} {gl : List Int} (hm : MB x9 (2 ^ sh) z0 z1 gl (gids N k) [] k k io icap go gcap so scap c w0) (hq : TRows p T (some a) lcap (some b) wcap c w0) :
    G30 c w0 x9 [.int .i64 (2 ^ sh), .int .i64 z0, .int .i64 z0, .slice go k gcap, .int .i64 z1, .int .i64 0, .slice so 0 scap] a T.length lcap (T.flatMap (TT.lc p)) b wcap (T.flatMap TT.rc) w0.drew := by
  have t : Stp (fun _ => False) c c w0 w0.drew := (Stp.refl _ _ _).drew
  exact ⟨t.mono fun _ h => h.elim, hm.mb.stp t id, hq.lr.stp t id, hq.wr.stp t id⟩
theorem row_there {kk cap : Nat} {e : TypeId} {α : Type} {enc : α → List Value} {l : List α} (hm : ∀ x, (enc x).length = 7) (h : Row c kk w e 7 (some a) n cap (l.flatMap enc)) {x : α} (hx : l[i]? = some x) : w.there a.block (a.off + i * 7) 7 := fun j hj => by
  have hf : ∀ (r : Nat) (v : Value), (enc x)[r]? = some v → ∃ g off, some a = some (⟨g, off, none⟩ : Addr) ∧ w.cell? ⟨g, off + (i * 7 + r), none⟩ = some v ∧ w.frozen? ⟨g, off + (i * 7 + r), none⟩ = false ∧ c g = kk := fun r v hv => h.field hm hx hv
  obtain ⟨g, off, e1, e2, e3, -⟩ := hf j _ (List.getElem?_eq_getElem (by rw [hm]; exact hj))
  cases e1
  rw [Nat.add_assoc]
  exact ⟨by rw [e2]; rfl, e3⟩
section
variable {P : Program} {ops : Array Oper} {o : Oper} {act : Act} {K : Act → World → Prop} {Q : Exit → Act → World → Prop} {E : Prop}
theorem step_g30m (hg : o.guard = none) (ty : TypeId) (x y : Operand) (ho : o.op = .store ty x y)
    {u0 u1 u2 u3 u4 u5 u6 v0 v1 v2 v3 v4 v5 v6 : Value} (h : G30 c w0 x9 [u0, u1, u2, u3, u4, u5, u6] a n lcap LL b wcap RR w) (hx : act.eval x = .pointer (some ⟨x9, 0, none⟩)) (hy : act.eval y = .agg #[v0, v1, v2, v3, v4, v5, v6]) (hi : (P.info? ty).map (·.size) = some 7)
    (h1 : ∀ v ∈ [v0, v1, v2, v3, v4, v5, v6], v.oneCell' = true) (hK : ∀ w', Hid (G30 c w0 x9 [v0, v1, v2, v3, v4, v5, v6] a n lcap LL b wcap RR w') → K (act.put o.dst undef) w') :
    if Region.wanted o (yielded ops act.tmps) = true then Oper.wp P o act w K Q else E :=
  step_st7 hg ty x y ho hx hy (blk_there h.m) hi h1 (hK _ (Lib.hid (h.pm v0 v1 v2 v3 v4 v5 v6)))
theorem step_g30l (hg : o.guard = none) (ty : TypeId) (x y : Operand) (ho : o.op = .store ty x y) (hT : T[i]? = some u)
    {v0 v1 v2 v3 v4 v5 v6 : Value} (he : u'.lc p = [v0, v1, v2, v3, v4, v5, v6]) (h : G30 c w0 x9 L a n lcap (T.flatMap (TT.lc p)) b wcap RR w) (hx : act.eval x = .pointer (some (a.add (i * 7)))) (hy : act.eval y = .agg #[v0, v1, v2, v3, v4, v5, v6]) (hi : (P.info? ty).map (·.size) = some 7)
    (h1 : ∀ v ∈ [v0, v1, v2, v3, v4, v5, v6], v.oneCell' = true) (hK : ∀ w', Hid (G30 c w0 x9 L a n lcap ((T.set i u').flatMap (TT.lc p)) b wcap RR w') → K (act.put o.dst undef) w') :
    if Region.wanted o (yielded ops act.tmps) = true then Oper.wp P o act w K Q else E := by
  have hf := add_flat h.l.2.2.2.1 (i * 7)
  have hp := h.pl hT he
  rw [hf] at hx hp
  exact step_st7 hg ty x y ho hx hy (row_there (TT.lc_len p) h.l hT) hi h1 (hK _ (Lib.hid hp))
theorem step_g30r (hg : o.guard = none) (ty : TypeId) (x y : Operand) (ho : o.op = .store ty x y) (hT : T[i]? = some u)
    {v0 v1 v2 v3 v4 v5 v6 : Value} (he : u'.rc = [v0, v1, v2, v3, v4, v5, v6]) (h : G30 c w0 x9 L a n lcap LL b wcap (T.flatMap TT.rc) w) (hx : act.eval x = .pointer (some (b.add (i * 7)))) (hy : act.eval y = .agg #[v0, v1, v2, v3, v4, v5, v6]) (hi : (P.info? ty).map (·.size) = some 7)
    (h1 : ∀ v ∈ [v0, v1, v2, v3, v4, v5, v6], v.oneCell' = true) (hK : ∀ w', Hid (G30 c w0 x9 L a n lcap LL b wcap ((T.set i u').flatMap TT.rc) w') → K (act.put o.dst undef) w') :
    if Region.wanted o (yielded ops act.tmps) = true then Oper.wp P o act w K Q else E := by
  have hf := add_flat h.r.2.2.2.1 (i * 7)
  have hp := h.pr hT he
  rw [hf] at hx hp
  exact step_st7 hg ty x y ho hx hy (row_there TT.rc_len h.r hT) hi h1 (hK _ (Lib.hid hp))
end
theorem G30.named (h : G30 c w0 x9 L a n lcap LL b wcap RR w) : ∃ w', w' = w ∧ Hid (G30 c w0 x9 L a n lcap LL b wcap RR w') := ⟨w, rfl, Lib.hid h⟩
/-- What is laid back. -/
theorem G30.ta {wz : World} {z0 z1 y0 y1 : Int} {gl : List Int} (hr : LAt wz p q bp gp sh la' (gids N k) c w0) (hm : MB x9 (2 ^ sh) z0 z1 gl (gids N k) [] k k io icap go gcap so scap c w0) (hq : TRows p T (some a) lcap (some b) wcap c w0)
    (hs : In c 6 w0 1 u'.ao u'.t.ids.length u'.cap (u'.t.ids.map (Value.int .i64))) (hd : la'.drop N = gl) (g0 : la'.getD 0 0 = y0) (g1 : la'.getD 1 0 = y1)
    (h : G30 c w0 x9 [.int .i64 (2 ^ sh), .int .i64 y0, .int .i64 y0, .slice go k gcap, .int .i64 y1, .int .i64 0, .slice so 0 scap] a T.length lcap ((T.set i u').flatMap (TT.lc p)) b wcap ((T.set i u').flatMap TT.rc) w) :
    TA wz x9 p q bp gp sh N k la' io icap go gcap so scap (T.set i u') (some a) lcap (some b) wcap c w := by
  subst g0 g1 hd
  refine ⟨hr.stp9 (h.t.mono fun _ h => by omega), ⟨h.m, hm.gr.stp h.t (by decide), hm.ir.stp h.t (by decide), hm.sr.stp h.t (by decide)⟩, by rw [List.length_set]; exact h.l, by rw [List.length_set]; exact h.r, fun v hv => ?_⟩
  rcases List.mem_or_eq_of_mem_set hv with hv | rfl
  · exact (hq.is v hv).stp h.t (by decide)
  · exact hs.stp h.t (by decide)

/-- What the stores load. -/
def S30 (b1 yb b2 xb : Nat) (v0 v1 v2 v3 v4 v5 v6 l0 l1 l2 l3 l4 l5 l6 r0 r1 r2 r3 r4 r5 r6 xi : Value) (w : World) : Prop :=
  (w.cell? ⟨b1, 0, none⟩ = some v0 ∧ w.cell? ⟨b1, 1, none⟩ = some v1 ∧ w.cell? ⟨b1, 2, none⟩ = some v2 ∧ w.cell? ⟨b1, 3, none⟩ = some v3 ∧ w.cell? ⟨b1, 4, none⟩ = some v4 ∧ w.cell? ⟨b1, 5, none⟩ = some v5 ∧ w.cell? ⟨b1, 6, none⟩ = some v6) ∧
  (w.cell? ⟨yb, 0, none⟩ = some l0 ∧ w.cell? ⟨yb, 1, none⟩ = some l1 ∧ w.cell? ⟨yb, 2, none⟩ = some l2 ∧ w.cell? ⟨yb, 3, none⟩ = some l3 ∧ w.cell? ⟨yb, 4, none⟩ = some l4 ∧ w.cell? ⟨yb, 5, none⟩ = some l5 ∧ w.cell? ⟨yb, 6, none⟩ = some l6) ∧
  (w.cell? ⟨b2, 0, none⟩ = some r0 ∧ w.cell? ⟨b2, 1, none⟩ = some r1 ∧ w.cell? ⟨b2, 2, none⟩ = some r2 ∧ w.cell? ⟨b2, 3, none⟩ = some r3 ∧ w.cell? ⟨b2, 4, none⟩ = some r4 ∧ w.cell? ⟨b2, 5, none⟩ = some r5 ∧ w.cell? ⟨b2, 6, none⟩ = some r6) ∧ w.cell? ⟨xb, 1, none⟩ = some xi
theorem s30 {b1 yb b2 xb : Nat} {t1 t2 t3 t4 : TypeId} {v0 v1 v2 v3 v4 v5 v6 l0 l1 l2 l3 l4 l5 l6 r0 r1 r2 r3 r4 r5 r6 u0 xi u2 : Value} (h1 : Blk c 16 w0 b1 [v0, v1, v2, v3, v4, v5, v6] t1) (hy : Blk c 15 w0 yb [l0, l1, l2, l3, l4, l5, l6] t2) (h2 : Blk c 17 w0 b2 [r0, r1, r2, r3, r4, r5, r6] t3) (hx : Blk c 15 w0 xb [u0, xi, u2] t4)
    (G : G30 c w0 x9 L a n lcap LL b wcap RR w) : S30 b1 yb b2 xb v0 v1 v2 v3 v4 v5 v6 l0 l1 l2 l3 l4 l5 l6 r0 r1 r2 r3 r4 r5 r6 xi w :=
  ⟨cl_7 (h1.stp G.t (by decide)), cl_7 (hy.stp G.t (by decide)), cl_7 (h2.stp G.t (by decide)), (act_cells (hx.stp G.t (by decide))).2.1⟩
end

/-- What was there is as it was. -/
def OldF (c : Nat → Nat) (w0 w : World) : Prop := ∃ c', Stp (fun _ => False) c c' w0 w
theorem OldF.call (h : OldF c w0 w) {f : Nat} {args : Array Value} {E : Ending} (hc : ∀ c, Calls Tryd.prog f args w (fun e w' => e = E ∧ ∃ c', Stp (fun _ => False) c c' w w')) :
    Calls Tryd.prog f args w (fun e w' => e = E ∧ Hid (OldF c w0 w')) := by
  obtain ⟨c1, t⟩ := h
  refine (hc c1).mono ?_
  rintro e w' ⟨he, c', t'⟩
  exact ⟨he, Lib.hid ⟨c', t.trans t'⟩⟩
/-- What the last questions load. -/
def S34 (yb b2 : Nat) (l0 l1 l2 l3 l4 l5 l6 r1 : Value) (w : World) : Prop :=
  (w.cell? ⟨yb, 0, none⟩ = some l0 ∧ w.cell? ⟨yb, 1, none⟩ = some l1 ∧ w.cell? ⟨yb, 2, none⟩ = some l2 ∧ w.cell? ⟨yb, 3, none⟩ = some l3 ∧ w.cell? ⟨yb, 4, none⟩ = some l4 ∧ w.cell? ⟨yb, 5, none⟩ = some l5 ∧ w.cell? ⟨yb, 6, none⟩ = some l6) ∧ w.cell? ⟨b2, 1, none⟩ = some r1
theorem s34 {k1 k2 yb b2 : Nat} {t2 t3 : TypeId} {l0 l1 l2 l3 l4 l5 l6 r0 r1 r2 r3 r4 r5 r6 : Value} (hy : Blk c k1 w0 yb [l0, l1, l2, l3, l4, l5, l6] t2) (h2 : Blk c k2 w0 b2 [r0, r1, r2, r3, r4, r5, r6] t3) (h : OldF c w0 w) : S34 yb b2 l0 l1 l2 l3 l4 l5 l6 r1 w := by
  obtain ⟨c', t⟩ := h
  exact ⟨cl_7 (hy.stp t id), (cl_7 (h2.stp t id)).2.1⟩
theorem tlast_l {sv : Option Addr} {n stage claimed hi most lst : Int} {ao : Option Addr} {m cap : Nat} (h : (if stage = 5 then hi else -1) = lst) (c : Nat → Nat) (w : World) :
    Calls Tryd.prog 48 #[.agg #[.pointer sv, .int .i64 n, .int .i64 stage, .int .i64 claimed, .int .i64 hi, .slice ao m cap, .int .i64 most]] w fun e w' => e = .returned (.int .i64 lst) ∧ ∃ c', Stp (fun _ => False) c c' w w' := by
  have g := tlast_any sv n stage claimed hi ao m cap most c w
  rw [h] at g
  exact g
end
end Go.Proofs.YtoifknfmamcimaaDoor
