/- Two appends in one region that draws: what holds of the world part of the way, and each step's law. No condition beyond each law's own. -/
import Derived.Test.YtmhhhiegioniaaaGraph5
namespace Go.Proofs.Ytmhhhiegioniaaa
open Go.RowKit

theorem Try.infoSint : (Try.prog.info? 40).map (fun i => (i.zero, i.size, i.bytes)) = some (some (.slice none 0 0), 1, 24) := by kernel_rfl
theorem Try.infoBoolG : (Try.prog.info? 4).map (fun i => (i.zero, i.size, i.bytes)) = some (some (.bool false), 1, 1) := by kernel_rfl

/-- The colours that the two appends turn, and their sources'. -/
def BJ (k : Nat) (j : Nat) : Prop := j = k ∨ j = k + 1 ∨ j = k + 2 ∨ j = k + 68

/-- Part of the way: the struct's two cells, both slices, the two sources. -/
def Bd (R : (Nat → Nat) → World → Prop) (c0 : Nat → Nat) (wB : World) (k p : Nat) (tp : TypeId) (pA pG : Value) (oA : Option Addr) (nA capA : Nat) (xsA : List Value) (oG : Option Addr) (nG capG : Nat) (xsG : List Value) (tA tG : Option Nat) (vA vG : Value) (W : World) : Prop :=
  ∃ c, Stp (BJ k) c0 c wB W ∧ Blk c k W p [pA, pG] tp ∧ Row c (k + 1) W 40 1 oA nA capA xsA ∧ Row c (k + 2) W 4 1 oG nG capG xsG ∧
    (∀ b, tA = some b → Blk c (k + 68) W b [vA] 40) ∧ (∀ b, tG = some b → Blk c (k + 68) W b [vG] 4) ∧ R c W

def RSt (R : (Nat → Nat) → World → Prop) (k : Nat) : Prop := ∀ (c c' : Nat → Nat) (w w' : World), Stp (BJ k) c c' w w' → R c w → R c' w'

section
variable {R : (Nat → Nat) → World → Prop} {c0 : Nat → Nat} {wB : World} {k p : Nat} {tp : TypeId} {pA pG : Value} {oA : Option Addr} {nA capA : Nat} {xsA : List Value} {oG : Option Addr} {nG capG : Nat} {xsG : List Value} {tA tG : Option Nat} {vA vG : Value} {W : World}

theorem Bd.drew (h : Bd R c0 wB k p tp pA pG oA nA capA xsA oG nG capG xsG tA tG vA vG W) (hR : RSt R k) : Bd R c0 wB k p tp pA pG oA nA capA xsA oG nG capG xsG tA tG vA vG W.drew := by
  obtain ⟨c, h1, h2, h3, h4, h5, h6, h7⟩ := h
  exact ⟨c, h1.drew, h2.drew, h3.drew, h4.drew, h5, h6, hR _ _ _ _ ((Stp.refl _ c W).drew) h7⟩

theorem Bd.allocA (h : Bd R c0 wB k p tp pA pG oA nA capA xsA oG nG capG xsG tA tG vA vG W) (hR : RSt R k) : Bd R c0 wB k p tp pA pG oA nA capA xsA oG nG capG xsG (some W.heap.size) tG vA vG (W.alloc (.cells #[vA] 40)) := by
  obtain ⟨c, h1, h2, h3, h4, h5, h6, h7⟩ := h
  refine ⟨paint c W.heap.size (k + 68), h1.alloc _ _, h2.alloc _ _, h3.alloc _ _, h4.alloc _ _, fun b hb => ?_, fun b hb => (h6 b hb).alloc _ _, hR _ _ _ _ ((Stp.refl _ c W).alloc _ _) h7⟩
  cases hb
  exact Blk.new c (k + 68) W [vA] _

theorem Bd.allocG (h : Bd R c0 wB k p tp pA pG oA nA capA xsA oG nG capG xsG tA tG vA vG W) (hR : RSt R k) : Bd R c0 wB k p tp pA pG oA nA capA xsA oG nG capG xsG tA (some W.heap.size) vA vG (W.alloc (.cells #[vG] 4)) := by
  obtain ⟨c, h1, h2, h3, h4, h5, h6, h7⟩ := h
  refine ⟨paint c W.heap.size (k + 68), h1.alloc _ _, h2.alloc _ _, h3.alloc _ _, h4.alloc _ _, fun b hb => (h5 b hb).alloc _ _, fun b hb => ?_, hR _ _ _ _ ((Stp.refl _ c W).alloc _ _) h7⟩
  cases hb
  exact Blk.new c (k + 68) W [vG] _

theorem Bd.setA (h : Bd R c0 wB k p tp pA pG oA nA capA xsA oG nG capG xsG tA tG vA vG W) (hR : RSt R k) (v : Value) : Bd R c0 wB k p tp v pG oA nA capA xsA oG nG capG xsG tA tG vA vG (W.setCell ⟨p, 0, none⟩ v) := by
  obtain ⟨c, h1, h2, h3, h4, h5, h6, h7⟩ := h
  have s := (Stp.refl (· = k) c W).setCell (p := ⟨p, 0, none⟩) v h2.1
  exact ⟨c, h1.setCell v (.inl h2.1), by simpa using h2.set 0 v, h3.stp s (by omega), h4.stp s (by omega), fun b hb => (h5 b hb).stp s (by omega), fun b hb => (h6 b hb).stp s (by omega), hR _ _ _ _ (s.mono fun _ h => .inl h) h7⟩

theorem Bd.setG (h : Bd R c0 wB k p tp pA pG oA nA capA xsA oG nG capG xsG tA tG vA vG W) (hR : RSt R k) (v : Value) : Bd R c0 wB k p tp pA v oA nA capA xsA oG nG capG xsG tA tG vA vG (W.setCell ⟨p, 1, none⟩ v) := by
  obtain ⟨c, h1, h2, h3, h4, h5, h6, h7⟩ := h
  have s := (Stp.refl (· = k) c W).setCell (p := ⟨p, 1, none⟩) v h2.1
  exact ⟨c, h1.setCell v (.inl h2.1), by simpa using h2.set 1 v, h3.stp s (by omega), h4.stp s (by omega), fun b hb => (h5 b hb).stp s (by omega), fun b hb => (h6 b hb).stp s (by omega), hR _ _ _ _ (s.mono fun _ h => .inl h) h7⟩

theorem Bd.facts (h : Bd R c0 wB k p tp pA pG oA nA capA xsA oG nG capG xsG tA tG vA vG W) : W.cell? ⟨p, 0, none⟩ = some pA ∧ W.cell? ⟨p, 1, none⟩ = some pG ∧ W.frozen? ⟨p, 0, none⟩ = false ∧ W.frozen? ⟨p, 1, none⟩ = false ∧ p < W.heap.size := by
  obtain ⟨c, h1, h2, _⟩ := h
  exact ⟨by simpa using h2.cell 0, by simpa using h2.cell 1, h2.free 0, h2.free 1, h2.lt⟩

theorem step_appA {ops : Array Oper} {o : Oper} {a : Act} {K : Act → World → Prop} {Q : Exit → Act → World → Prop} {E : Prop} (h : Bd R c0 wB k p tp pA pG oA nA capA xsA oG nG capG xsG tA tG vA vG W) (hR : RSt R k) (hg : o.guard = none) (s x : Operand)
    (hop : o.op = Op.call { callee := Callee.builtin Builtin.append, args := #[s, x], argTypes := #[132, 132] })
    (hs : a.eval s = .slice oA nA capA) (b : Nat) (hx : a.eval x = .slice (some ⟨b, 0, none⟩) 1 1) (ht : tA = some b) (h1 : vA.oneCell' = true) (hn : nA ≤ 1000)
    (hK : ∀ oA' capA' w', Hid (Bd R c0 wB k p tp pA pG oA' (nA + 1) capA' (xsA ++ [vA]) oG nG capG xsG tA tG vA vG w') → K (a.put o.dst (.slice oA' (nA + 1) capA')) w') :
    if Region.wanted o (yielded ops a.tmps) = true then Oper.wp Try.prog o a W K Q else E := by
  obtain ⟨c, h1', h2, h3, h4, h5, h6, h7⟩ := h
  refine step_row hg s x 132 hop c (k + 1) 40 (.slice none 0 0) 1 24 Try.underlying132 Try.infoSint rfl oA nA capA xsA hs h3 _ 1 [vA] hx (.inr ⟨_, _, rfl, rfl, fun j u hu => ?_⟩) (by simpa using h1) (by unfold maxLen; omega) (by omega) (fun oA' capA' w' hr st _ => hK oA' capA' w' (Lib.hid ⟨_, h1'.trans (st.mono fun _ h => .inr (.inl h)), h2.stp st (by omega), hr, h4.stp st (by omega), fun b hb => (h5 b hb).stp st (by omega), fun b hb => (h6 b hb).stp st (by omega), hR _ _ _ _ (st.mono fun _ h => .inr (.inl h)) h7⟩))
  match j, hu with
  | 0, hu =>
    simp at hu
    subst hu
    simpa [Addr.add] using (h5 b ht).cell 0

theorem step_appG {ops : Array Oper} {o : Oper} {a : Act} {K : Act → World → Prop} {Q : Exit → Act → World → Prop} {E : Prop} (h : Bd R c0 wB k p tp pA pG oA nA capA xsA oG nG capG xsG tA tG vA vG W) (hR : RSt R k) (hg : o.guard = none) (s x : Operand)
    (hop : o.op = Op.call { callee := Callee.builtin Builtin.append, args := #[s, x], argTypes := #[76, 76] })
    (hs : a.eval s = .slice oG nG capG) (b : Nat) (hx : a.eval x = .slice (some ⟨b, 0, none⟩) 1 1) (ht : tG = some b) (h1 : vG.oneCell' = true) (hn : nG ≤ 1000)
    (hK : ∀ oG' capG' w', Hid (Bd R c0 wB k p tp pA pG oA nA capA xsA oG' (nG + 1) capG' (xsG ++ [vG]) tA tG vA vG w') → K (a.put o.dst (.slice oG' (nG + 1) capG')) w') :
    if Region.wanted o (yielded ops a.tmps) = true then Oper.wp Try.prog o a W K Q else E := by
  obtain ⟨c, h1', h2, h3, h4, h5, h6, h7⟩ := h
  refine step_row hg s x 76 hop c (k + 2) 4 (.bool false) 1 1 Try.underlying76 Try.infoBoolG rfl oG nG capG xsG hs h4 _ 1 [vG] hx (.inr ⟨_, _, rfl, rfl, fun j u hu => ?_⟩) (by simpa using h1) (by unfold maxLen; omega) (by omega) (fun oG' capG' w' hr st _ => hK oG' capG' w' (Lib.hid ⟨_, h1'.trans (st.mono fun _ h => .inr (.inr (.inl h))), h2.stp st (by omega), h3.stp st (by omega), hr, fun b hb => (h5 b hb).stp st (by omega), fun b hb => (h6 b hb).stp st (by omega), hR _ _ _ _ (st.mono fun _ h => .inr (.inr (.inl h))) h7⟩))
  match j, hu with
  | 0, hu =>
    simp at hu
    subst hu
    simpa [Addr.add] using (h6 b ht).cell 0
end
end Go.Proofs.Ytmhhhiegioniaaa
