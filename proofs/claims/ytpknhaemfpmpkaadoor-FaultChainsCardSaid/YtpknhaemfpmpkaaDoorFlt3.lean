/- errors.As whole, and what stands on it: Code, At, Deep, Wrap, of a chain of faults around a number. No condition beyond each lemma's own, and that errors.errorType holds what the program lays there. -/
import Derived.Test.YtpknhaemfpmpkaaDoorFlt2
namespace Go.Proofs.YtpknhaemfpmpkaaDoor
open Go.RowKit Go.Extern.Stop Go.Stop Go.Extern

/-- The variable errors.errorType holds what it is laid with. -/
def ET (w : World) : Prop := w.cell? ⟨0, 0, none⟩ = some (.iface 70 (.agg #[.pointer (some ⟨4, 26, none⟩)]))
theorem ET.old {w w' : World} (h : ET w) (k : Old w w') : ET w' := (World.cell?_of_block (w := w) (k.block _ (cell_block h))).trans h
theorem ET.alloc {w : World} (h : ET w) (o : Obj) : ET (w.alloc o) := h.old ((Old.refl w).alloc o)

/-- errors.As of a fault, at a variable of a fault's pointer. -/
theorem as_fault (e t : Addr) (old : Value) (w : World) (hg : ET w) (ht0 : w.cell? t = some old) (hf0 : w.frozen? t = false) :
    Calls Tryd.prog 10 #[.iface 29 (.pointer (some e)), .iface 31 (.pointer (some t))] w fun ev w' => ev = .returned (.bool true) ∧ ∃ W, Old w W ∧ w' = W.setCell t (.pointer (some e)) := by
  have h6 := @run_callFunc_extern Tryd.prog 20 _ (fun args => ReflectliteValue.unpack (args.getD 0 (.tuple #[]))) Tryd.func20 (by kernel_rfl) (by kernel_rfl) (by kernel_rfl) (by kernel_rfl)
  have h7 := @run_callFunc_extern Tryd.prog 21 _ (ReflectliteValue.methodAny (ReflectliteValue.valueError "reflectlite.Value.Type" 0) (fun t _ _ _ => ReflectliteType.toType t)) Tryd.func21 (by kernel_rfl) (by kernel_rfl) (by kernel_rfl) (by kernel_rfl)
  have h8 := @run_callFunc_extern Tryd.prog 22 _ (ReflectliteValue.method (ReflectliteValue.valueError "reflectlite.Value.IsNil" 0) ReflectliteValue.isNil) Tryd.func22 (by kernel_rfl) (by kernel_rfl) (by kernel_rfl) (by kernel_rfl)
  have h27 := @run_callFunc_extern Tryd.prog 59 _ (ReflectliteType.abiMethod fun t => do pure (.int .u8 (← Rtype.kind t))) Tryd.func59 (by kernel_rfl) (by kernel_rfl) (by kernel_rfl) (by kernel_rfl)
  have h37 := @run_callFunc_extern Tryd.prog 68 _ (ReflectliteType.method ReflectliteType.elem) Tryd.func68 (by kernel_rfl) (by kernel_rfl) (by kernel_rfl) (by kernel_rfl)
  have h38 := @run_callFunc_extern Tryd.prog 69 _ (ReflectliteType.relation "Implements" ReflectliteType.implements_) Tryd.func69 (by kernel_rfl) (by kernel_rfl) (by kernel_rfl) (by kernel_rfl)
  have f6 := valueOfPP
  have f7 := typePP
  have mK := methodKind
  have mE := methodElem
  have mI := methodImplements
  have k1 := kindPP
  have k2 := kindP
  have e1 := elemPP
  have i1 := implP
  have n8 := isNilPP ⟨w.heap.size, 0, none⟩ t ((w.alloc (.cells #[.pointer (some t)] 31)).alloc (.cells #[.pointer (some ⟨4, 31, none⟩), .pointer (some ⟨w.heap.size, 0, none⟩), .int .u64 150] 55)) (by simp)
  have hg2 : ((w.alloc (.cells #[.pointer (some t)] 31)).alloc (.cells #[.pointer (some ⟨4, 31, none⟩), .pointer (some ⟨w.heap.size, 0, none⟩), .int .u64 150] 55)).cell? ⟨0, 0, none⟩ = some (.iface 70 (.agg #[.pointer (some ⟨4, 26, none⟩)])) := cell_alloc _ (cell_alloc _ hg)
  have Ht := Lib.hid ht0
  have Hf := Lib.hid hf0
  clear hg ht0 hf0
  go_enter Tryd.func10, Tryd.ntmps10
  go_wp2_with fail
  refine (eras_hit e t ⟨w.heap.size, 0, none⟩ _ old _ (by simp) (cell_alloc _ (cell_alloc _ Ht.out)) (frozen_alloc _ (cell_alloc _ Ht.out) (frozen_alloc _ Ht.out Hf.out))).mono ?_
  rintro ev w2 ⟨rfl, rfl⟩
  go_wp2
  go_ret
  exact ⟨rfl, _, ((((Old.refl w).alloc _).alloc _).alloc _).alloc _, rfl⟩

/-- errors.As of a number, at a variable of a fault's pointer. -/
theorem as_no (n : Int) (t : Addr) (w : World) (hg : ET w) :
    Calls Tryd.prog 10 #[.iface 37 (.int .i64 n), .iface 31 (.pointer (some t))] w fun ev w' => ev = .returned (.bool false) ∧ Old w w' := by
  have h6 := @run_callFunc_extern Tryd.prog 20 _ (fun args => ReflectliteValue.unpack (args.getD 0 (.tuple #[]))) Tryd.func20 (by kernel_rfl) (by kernel_rfl) (by kernel_rfl) (by kernel_rfl)
  have h7 := @run_callFunc_extern Tryd.prog 21 _ (ReflectliteValue.methodAny (ReflectliteValue.valueError "reflectlite.Value.Type" 0) (fun t _ _ _ => ReflectliteType.toType t)) Tryd.func21 (by kernel_rfl) (by kernel_rfl) (by kernel_rfl) (by kernel_rfl)
  have h8 := @run_callFunc_extern Tryd.prog 22 _ (ReflectliteValue.method (ReflectliteValue.valueError "reflectlite.Value.IsNil" 0) ReflectliteValue.isNil) Tryd.func22 (by kernel_rfl) (by kernel_rfl) (by kernel_rfl) (by kernel_rfl)
  have h27 := @run_callFunc_extern Tryd.prog 59 _ (ReflectliteType.abiMethod fun t => do pure (.int .u8 (← Rtype.kind t))) Tryd.func59 (by kernel_rfl) (by kernel_rfl) (by kernel_rfl) (by kernel_rfl)
  have h37 := @run_callFunc_extern Tryd.prog 68 _ (ReflectliteType.method ReflectliteType.elem) Tryd.func68 (by kernel_rfl) (by kernel_rfl) (by kernel_rfl) (by kernel_rfl)
  have h38 := @run_callFunc_extern Tryd.prog 69 _ (ReflectliteType.relation "Implements" ReflectliteType.implements_) Tryd.func69 (by kernel_rfl) (by kernel_rfl) (by kernel_rfl) (by kernel_rfl)
  have f6 := valueOfPP
  have f7 := typePP
  have mK := methodKind
  have mE := methodElem
  have mI := methodImplements
  have k1 := kindPP
  have k2 := kindP
  have e1 := elemPP
  have i1 := implP
  have n8 := isNilPP ⟨w.heap.size, 0, none⟩ t ((w.alloc (.cells #[.pointer (some t)] 31)).alloc (.cells #[.pointer (some ⟨4, 31, none⟩), .pointer (some ⟨w.heap.size, 0, none⟩), .int .u64 150] 55)) (by simp)
  have hg2 : ((w.alloc (.cells #[.pointer (some t)] 31)).alloc (.cells #[.pointer (some ⟨4, 31, none⟩), .pointer (some ⟨w.heap.size, 0, none⟩), .int .u64 150] 55)).cell? ⟨0, 0, none⟩ = some (.iface 70 (.agg #[.pointer (some ⟨4, 26, none⟩)])) := cell_alloc _ (cell_alloc _ hg)
  clear hg
  go_enter Tryd.func10, Tryd.ntmps10
  go_wp2_with fail
  refine (eras_no n ⟨w.heap.size, 0, none⟩ _ _).mono ?_
  rintro ev w2 ⟨rfl, rfl⟩
  go_wp2
  go_ret
  exact ⟨rfl, (((Old.refl w).alloc _).alloc _).alloc _⟩

/-- errors.As of a chain, at a variable of a number. -/
theorem as_num (L : List (ByteArray × Int)) (n : Int) (v : Value) (t : Addr) (old : Value) (w : World) (hc : Ch w L n v) (hg : ET w) (ht0 : w.cell? t = some old) (hf0 : w.frozen? t = false) :
    Calls Tryd.prog 10 #[v, .iface 64 (.pointer (some t))] w fun ev w' => ev = .returned (.bool true) ∧ ∃ W, Old w W ∧ w' = W.setCell t (.int .i64 n) := by
  have h6 := @run_callFunc_extern Tryd.prog 20 _ (fun args => ReflectliteValue.unpack (args.getD 0 (.tuple #[]))) Tryd.func20 (by kernel_rfl) (by kernel_rfl) (by kernel_rfl) (by kernel_rfl)
  have h7 := @run_callFunc_extern Tryd.prog 21 _ (ReflectliteValue.methodAny (ReflectliteValue.valueError "reflectlite.Value.Type" 0) (fun t _ _ _ => ReflectliteType.toType t)) Tryd.func21 (by kernel_rfl) (by kernel_rfl) (by kernel_rfl) (by kernel_rfl)
  have h8 := @run_callFunc_extern Tryd.prog 22 _ (ReflectliteValue.method (ReflectliteValue.valueError "reflectlite.Value.IsNil" 0) ReflectliteValue.isNil) Tryd.func22 (by kernel_rfl) (by kernel_rfl) (by kernel_rfl) (by kernel_rfl)
  have h27 := @run_callFunc_extern Tryd.prog 59 _ (ReflectliteType.abiMethod fun t => do pure (.int .u8 (← Rtype.kind t))) Tryd.func59 (by kernel_rfl) (by kernel_rfl) (by kernel_rfl) (by kernel_rfl)
  have h37 := @run_callFunc_extern Tryd.prog 68 _ (ReflectliteType.method ReflectliteType.elem) Tryd.func68 (by kernel_rfl) (by kernel_rfl) (by kernel_rfl) (by kernel_rfl)
  have h38 := @run_callFunc_extern Tryd.prog 69 _ (ReflectliteType.relation "Implements" ReflectliteType.implements_) Tryd.func69 (by kernel_rfl) (by kernel_rfl) (by kernel_rfl) (by kernel_rfl)
  have f6 := valueOfPE
  have f7 := typePE
  have mK := methodKind
  have mE := methodElem
  have mI := methodImplements
  have k1 := kindPE
  have k2 := kindE
  have e1 := elemPE
  have i1 := implE
  have n8 := isNilPE ⟨w.heap.size, 0, none⟩ t ((w.alloc (.cells #[.pointer (some t)] 64)).alloc (.cells #[.pointer (some ⟨4, 64, none⟩), .pointer (some ⟨w.heap.size, 0, none⟩), .int .u64 150] 55)) (by simp)
  have hg2 : ((w.alloc (.cells #[.pointer (some t)] 64)).alloc (.cells #[.pointer (some ⟨4, 64, none⟩), .pointer (some ⟨w.heap.size, 0, none⟩), .int .u64 150] 55)).cell? ⟨0, 0, none⟩ = some (.iface 70 (.agg #[.pointer (some ⟨4, 26, none⟩)])) := cell_alloc _ (cell_alloc _ hg)
  have Ht := Lib.hid ht0
  have Hf := Lib.hid hf0
  have Hc := Lib.hid hc
  obtain ⟨ut, uv, e⟩ := hc.iface
  subst e
  clear hg ht0 hf0 hc
  go_enter Tryd.func10, Tryd.ntmps10
  go_wp2_with fail
  refine (eras_num L n (.iface ut uv) t ⟨w.heap.size, 0, none⟩ _ old _ (Hc.out.old (((Old.refl w).alloc _).alloc _)) (by simp) (cell_alloc _ (cell_alloc _ Ht.out)) (frozen_alloc _ (cell_alloc _ Ht.out) (frozen_alloc _ Ht.out Hf.out))).mono ?_
  rintro ev w2 ⟨rfl, rfl⟩
  go_wp2
  go_ret
  exact ⟨rfl, _, ((((Old.refl w).alloc _).alloc _).alloc _).alloc _, rfl⟩
end Go.Proofs.YtpknhaemfpmpkaaDoor
