/- errors.As by its contracts: of a chain of faults around a number, at a target that is a variable of a fault's pointer, or of a number. No condition beyond each lemma's own. -/
import Derived.Test.YtpknhaemfpmpkaaDoorFlt1
import Derived.Deep.LoopGhost
namespace Go.Proofs.YtpknhaemfpmpkaaDoor
open Go.RowKit Go.Extern.Stop Go.Stop Go.Extern

/-- Nothing that was there has turned. -/
def Old (w w' : World) : Prop := Below w.heap.size w w'
theorem Old.refl (w : World) : Old w w := Below.refl _ _
theorem Old.trans {a b c : World} (h : Old a b) (k : Old b c) : Old a c := Below.trans h (k.mono h.size)
theorem Old.alloc {a w : World} (h : Old a w) (o : Obj) : Old a (w.alloc o) := Below.alloc h h.size o
theorem Old.drew {a w : World} (h : Old a w) : Old a w.drew := Below.drew h
theorem Old.drewN {a w : World} (h : Old a w) (n : Nat) : Old a (w.drewN n) := ⟨h.os, h.tape, h.output, h.size, h.block⟩
theorem Old.set {a w : World} (h : Old a w) {p : Addr} (hp : a.heap.size ≤ p.block) (u : Value) : Old a (w.setCell p u) := Below.setCell h hp u
theorem Old.blk {w w' : World} (h : Old w w') {b : Nat} {o : Obj} (hb : w.heap[b]? = some o) : w'.heap[b]? = some o := by
  rw [h.block b (lt_of_block hb)]; exact hb

/-- `v` is, in `w`, the number `n` with the faults `L` around it, the outermost first. -/
def Ch (w : World) : List (ByteArray × Int) → Int → Value → Prop
  | [], n, v => v = .iface 37 (.int .i64 n)
  | x :: L, n, v => ∃ b u, v = .iface 29 (.pointer (some ⟨b, 0, none⟩)) ∧ w.heap[b]? = some (.cells #[.string x.1, .int .i64 x.2, u] 33 (0, 0)) ∧ Ch w L n u

theorem Ch.old {w w' : World} (h : Old w w') : ∀ {L : List (ByteArray × Int)} {n : Int} {v : Value}, Ch w L n v → Ch w' L n v
  | [], _, _, k => k
  | _ :: _, _, _, ⟨b, u, e, hb, k⟩ => ⟨b, u, e, h.blk hb, Ch.old h k⟩

theorem Ch.iface {w : World} : ∀ {L : List (ByteArray × Int)} {n : Int} {v : Value}, Ch w L n v → ∃ t u, v = .iface t u
  | [], _, _, k => ⟨_, _, k⟩
  | _ :: _, _, _, ⟨_, _, e, _, _⟩ => ⟨_, _, e⟩

theorem cell_block {w : World} {a : Addr} {v : Value} (h : w.cell? a = some v) : a.block < w.heap.size := by
  rcases Nat.lt_or_ge a.block w.heap.size with k | k
  · exact k
  · simp [World.cell?, Array.getElem?_eq_none k] at h

theorem cell_alloc {w : World} {a : Addr} {v : Value} (o : Obj) (h : w.cell? a = some v) : (w.alloc o).cell? a = some v := by
  rw [World.cell?_alloc_lt _ _ a (cell_block h)]; exact h

theorem frozen_alloc {w : World} {a : Addr} {v : Value} (o : Obj) (h : w.cell? a = some v) (hf : w.frozen? a = false) : (w.alloc o).frozen? a = false := by
  rw [World.frozen?_alloc_old _ _ a (Nat.ne_of_lt (cell_block h))]; exact hf

/-- errors.as of a fault, at a target of a fault's pointer. -/
theorem eras_hit (e t b : Addr) (tv old : Value) (w : World) (hb : w.cell? b = some (.pointer (some t))) (ht0 : w.cell? t = some old) (hf0 : w.frozen? t = false) :
    Calls Tryd.prog 23 #[.iface 29 (.pointer (some e)), tv, .agg #[.pointer (some ⟨4, 31, none⟩), .pointer (some b), .int .u64 150], .iface 70 (.agg #[.pointer (some ⟨4, 29, none⟩)])] w fun ev w' =>
      ev = .returned (.bool true) ∧ w' = ((w.alloc (.cells #[.pointer (some ⟨4, 31, none⟩), .pointer (some b), .int .u64 150] 55)).alloc (.cells #[.pointer (some e)] 29)).setCell t (.pointer (some e)) := by
  have h20 := @run_callFunc_extern Tryd.prog 20 _ (fun args => ReflectliteValue.unpack (args.getD 0 (.tuple #[]))) Tryd.func20 (by kernel_rfl) (by kernel_rfl) (by kernel_rfl) (by kernel_rfl)
  have h10 := @run_callFunc_extern Tryd.prog 29 _ ReflectliteType.typeOf Tryd.func29 (by kernel_rfl) (by kernel_rfl) (by kernel_rfl) (by kernel_rfl)
  have h35 := @run_callFunc_extern Tryd.prog 66 _ (ReflectliteType.relation "AssignableTo" ReflectliteType.assignableTo) Tryd.func66 (by kernel_rfl) (by kernel_rfl) (by kernel_rfl) (by kernel_rfl)
  have h11 := @run_callFunc_extern Tryd.prog 30 _ (ReflectliteValue.method (ReflectliteValue.valueError "reflectlite.Value.Elem" 0) ReflectliteValue.elem) Tryd.func30 (by kernel_rfl) (by kernel_rfl) (by kernel_rfl) (by kernel_rfl)
  have h12 := @run_callFunc_extern Tryd.prog 31 _ ReflectliteValue.set Tryd.func31 (by kernel_rfl) (by kernel_rfl) (by kernel_rfl) (by kernel_rfl)
  have tO := typeOfP
  have mA := methodAssignableTo
  have aPP := assPP
  have vP := valueOfP
  have el := elemVPP b t (w.alloc (.cells #[.pointer (some ⟨4, 31, none⟩), .pointer (some b), .int .u64 150] 55)) (cell_alloc _ hb)
  have st := setP t ⟨w.heap.size + 1, 0, none⟩ e old ((w.alloc (.cells #[.pointer (some ⟨4, 31, none⟩), .pointer (some b), .int .u64 150] 55)).alloc (.cells #[.pointer (some e)] 29))
    (by rw [World.cell?_alloc_at _ _ _ _ (by simp)]; rfl) (cell_alloc _ (cell_alloc _ ht0)) (frozen_alloc _ (cell_alloc _ ht0) (frozen_alloc _ ht0 hf0))
  clear hb ht0 hf0
  go_enter Tryd.func23, Tryd.ntmps23
  go_wp2
  refine wp_loop_rounds 1 ?_
  rw [rounds_succ]
  go_wp2
  go_ret
  exact ⟨rfl, rfl⟩

/-- errors.as of a number, at a target of a fault's pointer. -/
theorem eras_no (n : Int) (b : Addr) (tv : Value) (w : World) :
    Calls Tryd.prog 23 #[.iface 37 (.int .i64 n), tv, .agg #[.pointer (some ⟨4, 31, none⟩), .pointer (some b), .int .u64 150], .iface 70 (.agg #[.pointer (some ⟨4, 29, none⟩)])] w fun ev w' =>
      ev = .returned (.bool false) ∧ w' = w.alloc (.cells #[.pointer (some ⟨4, 31, none⟩), .pointer (some b), .int .u64 150] 55) := by
  have h10 := @run_callFunc_extern Tryd.prog 29 _ ReflectliteType.typeOf Tryd.func29 (by kernel_rfl) (by kernel_rfl) (by kernel_rfl) (by kernel_rfl)
  have h35 := @run_callFunc_extern Tryd.prog 66 _ (ReflectliteType.relation "AssignableTo" ReflectliteType.assignableTo) Tryd.func66 (by kernel_rfl) (by kernel_rfl) (by kernel_rfl) (by kernel_rfl)
  have tO := typeOfE
  have mA := methodAssignableTo
  have aEP := assEP
  have nA := noAsE
  have uE := Tryd.noUnwrapE
  have vE := Tryd.noUnwrapsE
  go_enter Tryd.func23, Tryd.ntmps23
  go_wp2
  refine wp_loop_rounds 1 ?_
  rw [rounds_succ]
  go_wp2
  go_ret
  exact ⟨rfl, rfl⟩

/-- errors.as of a chain, at a target of a number. -/
theorem eras_num (L : List (ByteArray × Int)) (n : Int) (v : Value) (t b : Addr) (tv old : Value) (w : World) (hc : Ch w L n v) (hb : w.cell? b = some (.pointer (some t))) (ht0 : w.cell? t = some old) (hf0 : w.frozen? t = false) :
    Calls Tryd.prog 23 #[v, tv, .agg #[.pointer (some ⟨4, 64, none⟩), .pointer (some b), .int .u64 150], .iface 70 (.agg #[.pointer (some ⟨4, 37, none⟩)])] w fun ev w' =>
      ev = .returned (.bool true) ∧ w' = ((w.alloc (.cells #[.pointer (some ⟨4, 64, none⟩), .pointer (some b), .int .u64 150] 55)).alloc (.cells #[.int .i64 n] 37)).setCell t (.int .i64 n) := by
  have h20 := @run_callFunc_extern Tryd.prog 20 _ (fun args => ReflectliteValue.unpack (args.getD 0 (.tuple #[]))) Tryd.func20 (by kernel_rfl) (by kernel_rfl) (by kernel_rfl) (by kernel_rfl)
  have h10 := @run_callFunc_extern Tryd.prog 29 _ ReflectliteType.typeOf Tryd.func29 (by kernel_rfl) (by kernel_rfl) (by kernel_rfl) (by kernel_rfl)
  have h35 := @run_callFunc_extern Tryd.prog 66 _ (ReflectliteType.relation "AssignableTo" ReflectliteType.assignableTo) Tryd.func66 (by kernel_rfl) (by kernel_rfl) (by kernel_rfl) (by kernel_rfl)
  have h11 := @run_callFunc_extern Tryd.prog 30 _ (ReflectliteValue.method (ReflectliteValue.valueError "reflectlite.Value.Elem" 0) ReflectliteValue.elem) Tryd.func30 (by kernel_rfl) (by kernel_rfl) (by kernel_rfl) (by kernel_rfl)
  have h12 := @run_callFunc_extern Tryd.prog 31 _ ReflectliteValue.set Tryd.func31 (by kernel_rfl) (by kernel_rfl) (by kernel_rfl) (by kernel_rfl)
  have tE := typeOfE
  have tP := typeOfP
  have mA := methodAssignableTo
  have aEE := assEE
  have aPE := assPE
  have vE := valueOfE
  have nA := noAsF
  have uF := Tryd.hasUnwrapF
  have mU := Tryd.methodUnwrap
  have el := elemVPE b t (w.alloc (.cells #[.pointer (some ⟨4, 64, none⟩), .pointer (some b), .int .u64 150] 55)) (cell_alloc _ hb)
  have st := setE t ⟨w.heap.size + 1, 0, none⟩ n old ((w.alloc (.cells #[.pointer (some ⟨4, 64, none⟩), .pointer (some b), .int .u64 150] 55)).alloc (.cells #[.int .i64 n] 37))
    (by rw [World.cell?_alloc_at _ _ _ _ (by simp)]; rfl) (cell_alloc _ (cell_alloc _ ht0)) (frozen_alloc _ (cell_alloc _ ht0) (frozen_alloc _ ht0 hf0))
  have Hc := Lib.hid hc
  clear hb ht0 hf0 hc
  go_enter Tryd.func23, Tryd.ntmps23
  go_wp2
  go_loopg [0] L.length (fun gh v wr => wr = w.alloc (.cells #[.pointer (some ⟨4, 64, none⟩), .pointer (some b), .int .u64 150] 55) ∧ ∃ L', L'.length = gh ∧ Ch w L' n v)
  case atStart => exact ⟨rfl, L, rfl, Hc.out⟩
  case round =>
    obtain ⟨hw, L', hl, hc⟩ := hrel
    subst hw
    match L', hl, hc with
    | [], hl, hc =>
      have hv : _ = Value.iface 37 (.int .i64 n) := hc
      subst hv
      go_wp2
      go_ret
      exact ⟨rfl, rfl⟩
    | x :: L2, hl, hc =>
      obtain ⟨p, u, e, hp, hu⟩ := hc
      subst e
      obtain ⟨ut, uv, e⟩ := hu.iface
      subst e
      have Hu := Lib.hid hu
      have Hl := Lib.hid hl
      have hc2 : (w.alloc (.cells #[.pointer (some ⟨4, 64, none⟩), .pointer (some b), .int .u64 150] 55)).cell? ⟨p, 2, none⟩ = some (.iface ut uv) := cell_alloc _ (by simp [World.cell?, hp])
      clear hu hl hp
      go_wp2
      go_roundg (gk - 1)
      case rel => exact ⟨rfl, L2, by have := Hl.out; simp at this; omega, Hu.out⟩
      case measure => have := Hl.out; simp at this; omega
end Go.Proofs.YtpknhaemfpmpkaaDoor
