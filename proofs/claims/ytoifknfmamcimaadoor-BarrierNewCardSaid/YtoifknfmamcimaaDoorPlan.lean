/- A barrier's plan, in plain Lean: what it lays, and what that answers. No condition beyond each law's own. -/
import Derived.Test.YtoifknfmamcimaaDoorBar3
namespace Go.Proofs.YtoifknfmamcimaaDoor
open Go.RowKit

structure Pln where
  cursor : Int
  after : List Int
  buffer : Bool
  shown : List Int
  alert : Int
  shift : Nat

structure PlnOK (p : Pln) : Prop where
  cu : -1 ≤ p.cursor ∧ p.cursor ≤ 1000
  an : p.after.length ≤ 8
  av : ∀ v ∈ p.after, -1 ≤ v ∧ v ≤ 1000
  sn : p.shown.length ≤ 60
  al : 0 ≤ p.alert ∧ p.alert ≤ 2

def idsN (n : Nat) : List Int := (List.range n).map (fun i => ((i + 1 : Nat) : Int))
theorem idsN_succ (n : Nat) : idsN (n + 1) = idsN n ++ [((n + 1 : Nat) : Int)] := by simp [idsN, List.range_succ]
theorem idsN_len (n : Nat) : (idsN n).length = n := by simp [idsN]
theorem idsN_get {n i : Nat} (h : i < n) : (idsN n).getD i 0 = ((i + 1 : Nat) : Int) := by simp [idsN, List.getD, h]
theorem idsN_add : ∀ n : Nat, n ≤ 8 → (idsN n).foldl addRef ([], 0) = (idsN n, 0)
  | 0, _ => by decide
  | 1, _ => by decide
  | 2, _ => by decide
  | 3, _ => by decide
  | 4, _ => by decide
  | 5, _ => by decide
  | 6, _ => by decide
  | 7, _ => by decide
  | 8, _ => by decide
  | n + 9, h => by omega

def Pln.buf (p : Pln) : Option (Nat × Nat) := if p.buffer = true then some (p.shift % 7, p.after.length + 1) else none
def Pln.bar (p : Pln) (al : Nat) : Bar := ⟨0, al, idsN p.after.length, p.buf⟩

/-- What a plan lays. -/
structure BegR (p : Pln) (la left : List Int) (al : Nat) : Prop where
  len : la.length = al + 1
  lo : p.after.length + 1 ≤ al ∧ al ≤ p.after.length + 65
  vc : la.getD 0 0 = p.cursor
  va : ∀ i, i < p.after.length → la.getD (i + 1) 0 = p.after.getD i 0
  vl : la.getD al 0 = p.alert
  bn : p.buffer = false → left = []
  bs : p.buffer = true → p.after.length + 1 + 2 ^ (p.shift % 7) = al ∧ ∀ seq : Int, 0 ≤ seq → (seq ∈ left ↔ shownAt la (p.after.length + 1) (p.shift % 7) seq = true)

section
variable {p : Pln} {la left : List Int} {al : Nat}
theorem BegR.ok (h : BegR p la left al) (hp : PlnOK p) : BarOK la (p.bar al) := by
  have h1 := h.lo
  have h2 := hp.an
  refine ⟨by have := h.len; simp only [Pln.bar]; omega, by have := h.len; simp only [Pln.bar]; omega, fun x hx => ?_, by simp only [Pln.bar, idsN_len]; omega, fun sh first hb => ?_, by rw [show (p.bar al).cur = 0 from rfl, h.vc]; have := hp.cu; omega⟩
  · simp only [Pln.bar, idsN, List.mem_map, List.mem_range] at hx
    obtain ⟨i, hi, rfl⟩ := hx
    have := h.len
    omega
  · simp only [Pln.bar, Pln.buf] at hb
    split at hb
    · rename_i hbu
      cases hb
      have h3 := (h.bs hbu).1
      have h4 := h.len
      exact ⟨by omega, by omega⟩
    · cases hb

theorem valAt_ids {la after : List Int} {n : Nat} (hn : after.length = n) (h : ∀ i, i < n → la.getD (i + 1) 0 = after.getD i 0) : (idsN n).map (valAt la) = after := by
  refine List.ext_getElem (by simp [idsN_len, hn]) (fun i h1 h2 => ?_)
  have h3 := h i (by omega)
  simp only [idsN, List.map_map, List.getElem_map, List.getElem_range, Function.comp, valAt]
  rw [show (((i + 1 : Nat) : Int)).toNat = i + 1 by omega, h3]
  simp [List.getD, h2]
theorem BegR.vals (h : BegR p la left al) : (p.bar al).ids.map (valAt la) = p.after := valAt_ids rfl h.va

/-- The four ways a look goes. -/
theorem BegR.looks (h : BegR p la left al) (hp : PlnOK p) (next : Int) :
    (p.alert = 1 ∧ ∃ r, EndsP (p.bar al) la (Pr.start next) 1 r ∧ r.avail = next - 1 ∧ r.sign = 1) ∨
    (p.alert ≠ 1 ∧ 0 < p.after.length ∧ ∃ r, EndsP (p.bar al) la (Pr.start next) (1 + p.after.length) r ∧ r.avail = max (p.after.foldl min (p.after.getD 0 0)) (next - 1) ∧ r.sign = p.alert) ∨
    (p.alert ≠ 1 ∧ p.after.length = 0 ∧ (p.cursor < next ∨ p.buffer = false) ∧ ∃ r, EndsP (p.bar al) la (Pr.start next) 2 r ∧ r.avail = max p.cursor (next - 1) ∧ r.sign = p.alert) ∨
    (p.alert ≠ 1 ∧ p.after.length = 0 ∧ next ≤ p.cursor ∧ p.buffer = true ∧ ∃ x r, HiAt la 1 (p.shift % 7) next p.cursor x ∧ EndsP (p.bar al) la (Pr.start next) (2 + ((x - next + 1).toNat + if x < p.cursor then 1 else 0)) r ∧ r.avail = x ∧ r.sign = p.alert) := by
  have hv : la.getD (p.bar al).al 0 = p.alert := h.vl
  by_cases h1 : p.alert = 1
  · rw [h1] at hv
    exact .inl ⟨h1, _, ends_alert next hv, by simp [Pr.avail], rfl⟩
  · by_cases hi : p.after.length = 0
    · have hids : (p.bar al).ids = [] := by simp [Pln.bar, idsN, hi]
      by_cases hc : p.cursor < next ∨ p.buffer = false
      · refine .inr (.inr (.inl ⟨h1, hi, hc, _, ends_cursor next hv h1 hids ?_, by simp only [Pr.avail, if_true]; rw [show (p.bar al).cur = 0 from rfl, h.vc], rfl⟩))
        rcases hc with hc | hc
        · right; rw [show (p.bar al).cur = 0 from rfl, h.vc]; exact hc
        · left; simp [Pln.bar, Pln.buf, hc]
      · have hb : p.buffer = true := by
          cases hb : p.buffer with
          | true => rfl
          | false => exact absurd (.inr hb) hc
        have hcn : ¬ p.cursor < next := fun h => hc (.inl h)
        have hbu : (p.bar al).buf = some (p.shift % 7, 1) := by simp [Pln.bar, Pln.buf, hb, hi]
        obtain ⟨x, hx, he⟩ := ends_shown next hv h1 hids hbu (by rw [show (p.bar al).cur = 0 from rfl, h.vc]; omega)
        rw [show la.getD (p.bar al).cur 0 = p.cursor from h.vc] at hx he
        refine .inr (.inr (.inr ⟨h1, hi, by omega, hb, x, _, hx, he, ?_, rfl⟩))
        have := hx.1
        simp only [Pr.avail, if_true]
        exact Int.max_eq_left (by omega)
    · have hids : (p.bar al).ids ≠ [] := by
        intro e
        have := congrArg List.length e
        rw [show (p.bar al).ids = idsN p.after.length from rfl, idsN_len] at this
        exact hi this
      have := ends_after next hv h1 hids
      rw [h.vals, show (p.bar al).ids.length = p.after.length from idsN_len _] at this
      refine .inr (.inl ⟨h1, by omega, _, by rw [Nat.add_comm]; exact this, ?_, rfl⟩)
      simp only [Pr.avail, if_true]
      obtain ⟨a, t, ht⟩ : ∃ a t, p.after = a :: t := by
        cases e : p.after with
        | nil => rw [e] at hi; exact absurd rfl hi
        | cons a t => exact ⟨a, t, rfl⟩
      rw [ht]
      have hb := hp.av a (by rw [ht]; exact List.mem_cons_self ..)
      simp only [List.foldl_cons, List.getD_cons_zero]
      rw [show min 9223372036854775807 a = a by omega, show min a a = a by omega]
end
end Go.Proofs.YtoifknfmamcimaaDoor
