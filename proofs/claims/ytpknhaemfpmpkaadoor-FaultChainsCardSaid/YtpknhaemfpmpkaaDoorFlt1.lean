/- errors.As by its contracts, at a target that is a variable of a fault's pointer, or of a number: closed facts on the model's entries for internal/reflectlite at this program's types, and small laws on those that read or write memory. No condition beyond each lemma's own. -/
import Derived.Test.YtpknhaemfpmpkaaDoorFErrFacts
namespace Go.Proofs.YtpknhaemfpmpkaaDoor
open Go.RowKit Go.Extern.Stop Go.Stop Go.Extern

/-- errors.As(nil, target). -/
theorem as_nil (t : Value) (w : World) :
    Calls Tryd.prog 10 #[.nilIface, t] w fun e w' => e = .returned (.bool false) ∧ w' = w := by
  go_enter Tryd.func10, Tryd.ntmps10
  go_wp2
  go_ret
  exact ⟨rfl, rfl⟩

/-! ### Closed facts -/
theorem valueOfPP (t : Addr) (w : World) : (ReflectliteValue.unpack (.iface 31 (.pointer (some t)))).run Tryd.prog w
    = .ok (.agg #[.pointer (some ⟨4, 31, none⟩), .pointer (some ⟨w.heap.size, 0, none⟩), .int .u64 150]) (w.alloc (.cells #[.pointer (some t)] 31)) := by kernel_rfl
theorem valueOfPE (t : Addr) (w : World) : (ReflectliteValue.unpack (.iface 64 (.pointer (some t)))).run Tryd.prog w
    = .ok (.agg #[.pointer (some ⟨4, 64, none⟩), .pointer (some ⟨w.heap.size, 0, none⟩), .int .u64 150]) (w.alloc (.cells #[.pointer (some t)] 64)) := by kernel_rfl
theorem typePP (a : Addr) (w : World) : (ReflectliteValue.methodAny (ReflectliteValue.valueError "reflectlite.Value.Type" 0) (fun t _ _ _ => ReflectliteType.toType t) #[.agg #[.pointer (some ⟨4, 31, none⟩), .pointer (some a), .int .u64 150]]).run Tryd.prog w
    = .ok (.iface 70 (.agg #[.pointer (some ⟨4, 31, none⟩)])) w := by kernel_rfl
theorem typePE (a : Addr) (w : World) : (ReflectliteValue.methodAny (ReflectliteValue.valueError "reflectlite.Value.Type" 0) (fun t _ _ _ => ReflectliteType.toType t) #[.agg #[.pointer (some ⟨4, 64, none⟩), .pointer (some a), .int .u64 150]]).run Tryd.prog w
    = .ok (.iface 70 (.agg #[.pointer (some ⟨4, 64, none⟩)])) w := by kernel_rfl
theorem methodKind (h : Value) (w : World) : (Go.method 232 70 (.agg #[h]) "Kind").run Tryd.prog w = .ok (59, h) w := by kernel_rfl
theorem methodElem (h : Value) (w : World) : (Go.method 232 70 (.agg #[h]) "Elem").run Tryd.prog w = .ok (68, .agg #[h]) w := by kernel_rfl
theorem methodImplements (h : Value) (w : World) : (Go.method 232 70 (.agg #[h]) "Implements").run Tryd.prog w = .ok (69, .agg #[h]) w := by kernel_rfl
theorem methodAssignableTo (h : Value) (w : World) : (Go.method 232 70 (.agg #[h]) "AssignableTo").run Tryd.prog w = .ok (66, .agg #[h]) w := by kernel_rfl
theorem kindPP (w : World) : ((ReflectliteType.abiMethod fun t => Functor.map (fun a : Nat => Value.int IntKind.u8 (a : Int)) (Rtype.kind t)) #[.pointer (some ⟨4, 31, none⟩)]).run Tryd.prog w = .ok (.int .u8 22) w := by kernel_rfl
theorem kindPE (w : World) : ((ReflectliteType.abiMethod fun t => Functor.map (fun a : Nat => Value.int IntKind.u8 (a : Int)) (Rtype.kind t)) #[.pointer (some ⟨4, 64, none⟩)]).run Tryd.prog w = .ok (.int .u8 22) w := by kernel_rfl
theorem kindP (w : World) : ((ReflectliteType.abiMethod fun t => Functor.map (fun a : Nat => Value.int IntKind.u8 (a : Int)) (Rtype.kind t)) #[.pointer (some ⟨4, 29, none⟩)]).run Tryd.prog w = .ok (.int .u8 22) w := by kernel_rfl
theorem kindE (w : World) : ((ReflectliteType.abiMethod fun t => Functor.map (fun a : Nat => Value.int IntKind.u8 (a : Int)) (Rtype.kind t)) #[.pointer (some ⟨4, 37, none⟩)]).run Tryd.prog w = .ok (.int .u8 2) w := by kernel_rfl
theorem elemPP (w : World) : (ReflectliteType.method ReflectliteType.elem #[.agg #[.pointer (some ⟨4, 31, none⟩)]]).run Tryd.prog w = .ok (.iface 70 (.agg #[.pointer (some ⟨4, 29, none⟩)])) w := by kernel_rfl
theorem elemPE (w : World) : (ReflectliteType.method ReflectliteType.elem #[.agg #[.pointer (some ⟨4, 64, none⟩)]]).run Tryd.prog w = .ok (.iface 70 (.agg #[.pointer (some ⟨4, 37, none⟩)])) w := by kernel_rfl
theorem implP (w : World) : (ReflectliteType.relation "Implements" ReflectliteType.implements_ #[.agg #[.pointer (some ⟨4, 29, none⟩)], .iface 70 (.agg #[.pointer (some ⟨4, 26, none⟩)])]).run Tryd.prog w = .ok (.bool true) w := by kernel_rfl
theorem implE (w : World) : (ReflectliteType.relation "Implements" ReflectliteType.implements_ #[.agg #[.pointer (some ⟨4, 37, none⟩)], .iface 70 (.agg #[.pointer (some ⟨4, 26, none⟩)])]).run Tryd.prog w = .ok (.bool true) w := by kernel_rfl
theorem typeOfP (v : Value) (w : World) : (ReflectliteType.typeOf #[.iface 29 v]).run Tryd.prog w = .ok (.iface 70 (.agg #[.pointer (some ⟨4, 29, none⟩)])) w := by kernel_rfl
theorem typeOfE (v : Value) (w : World) : (ReflectliteType.typeOf #[.iface 37 v]).run Tryd.prog w = .ok (.iface 70 (.agg #[.pointer (some ⟨4, 37, none⟩)])) w := by kernel_rfl
theorem assPP (w : World) : (ReflectliteType.relation "AssignableTo" ReflectliteType.assignableTo #[.agg #[.pointer (some ⟨4, 29, none⟩)], .iface 70 (.agg #[.pointer (some ⟨4, 29, none⟩)])]).run Tryd.prog w = .ok (.bool true) w := by kernel_rfl
theorem assEP (w : World) : (ReflectliteType.relation "AssignableTo" ReflectliteType.assignableTo #[.agg #[.pointer (some ⟨4, 37, none⟩)], .iface 70 (.agg #[.pointer (some ⟨4, 29, none⟩)])]).run Tryd.prog w = .ok (.bool false) w := by kernel_rfl
theorem assEE (w : World) : (ReflectliteType.relation "AssignableTo" ReflectliteType.assignableTo #[.agg #[.pointer (some ⟨4, 37, none⟩)], .iface 70 (.agg #[.pointer (some ⟨4, 37, none⟩)])]).run Tryd.prog w = .ok (.bool true) w := by kernel_rfl
theorem assPE (w : World) : (ReflectliteType.relation "AssignableTo" ReflectliteType.assignableTo #[.agg #[.pointer (some ⟨4, 29, none⟩)], .iface 70 (.agg #[.pointer (some ⟨4, 37, none⟩)])]).run Tryd.prog w = .ok (.bool false) w := by kernel_rfl
theorem valueOfP (e : Addr) (w : World) : (ReflectliteValue.unpack (.iface 29 (.pointer (some e)))).run Tryd.prog w
    = .ok (.agg #[.pointer (some ⟨4, 29, none⟩), .pointer (some ⟨w.heap.size, 0, none⟩), .int .u64 150]) (w.alloc (.cells #[.pointer (some e)] 29)) := by kernel_rfl
theorem valueOfE (n : Int) (w : World) : (ReflectliteValue.unpack (.iface 37 (.int .i64 n))).run Tryd.prog w
    = .ok (.agg #[.pointer (some ⟨4, 37, none⟩), .pointer (some ⟨w.heap.size, 0, none⟩), .int .u64 130]) (w.alloc (.cells #[.int .i64 n] 37)) := by kernel_rfl

/-! ### The entries that read or write memory -/
theorem run_method {z : Sem Value} {f : TypeId → Addr → Nat → Nat → Sem Value} {v : Value} {t : TypeId} {a : Addr} {fl : Nat} {w : World}
    (h : (ReflectliteValue.parts v).run Tryd.prog w = .ok (some (t, a, fl)) w) : (ReflectliteValue.method z f #[v]).run Tryd.prog w = (f t a fl (fl % 32)).run Tryd.prog w := by
  change (ReflectliteValue.parts v >>= _).run Tryd.prog w = _
  rw [Sem.run_bind, h]
  rfl
theorem partsPP (a : Addr) (w : World) : (ReflectliteValue.parts (.agg #[.pointer (some ⟨4, 31, none⟩), .pointer (some a), .int .u64 150])).run Tryd.prog w = .ok (some (31, a, 150)) w := by kernel_rfl
theorem partsPE (a : Addr) (w : World) : (ReflectliteValue.parts (.agg #[.pointer (some ⟨4, 64, none⟩), .pointer (some a), .int .u64 150])).run Tryd.prog w = .ok (some (64, a, 150)) w := by kernel_rfl
theorem isNilPP (a p : Addr) (W : World) (ha : W.cell? a = some (.pointer (some p))) :
    (ReflectliteValue.method (ReflectliteValue.valueError "reflectlite.Value.IsNil" 0) ReflectliteValue.isNil #[.agg #[.pointer (some ⟨4, 31, none⟩), .pointer (some a), .int .u64 150]]).run Tryd.prog W = .ok (.bool false) W := by
  rw [run_method (partsPP _ _)]
  simp [ReflectliteValue.isNil, loadVar, isAgg, underlying, Tryd.underlying31, ha, Result.andThen]
theorem isNilPE (a p : Addr) (W : World) (ha : W.cell? a = some (.pointer (some p))) :
    (ReflectliteValue.method (ReflectliteValue.valueError "reflectlite.Value.IsNil" 0) ReflectliteValue.isNil #[.agg #[.pointer (some ⟨4, 64, none⟩), .pointer (some a), .int .u64 150]]).run Tryd.prog W = .ok (.bool false) W := by
  rw [run_method (partsPE _ _)]
  simp [ReflectliteValue.isNil, loadVar, isAgg, underlying, Tryd.underlying64, ha, Result.andThen]
theorem elemOfPP (w : World) : (Rtype.elem? 31).run Tryd.prog w = .ok (some 29) w := by kernel_rfl
theorem elemOfPE (w : World) : (Rtype.elem? 64).run Tryd.prog w = .ok (some 37) w := by kernel_rfl
theorem mkP (p : Addr) (w : World) : (ReflectliteValue.mk 29 p ReflectliteValue.flagAddr).run Tryd.prog w = .ok (.agg #[.pointer (some ⟨4, 29, none⟩), .pointer (some p), .int .u64 406]) w := by kernel_rfl
theorem mkE (p : Addr) (w : World) : (ReflectliteValue.mk 37 p ReflectliteValue.flagAddr).run Tryd.prog w = .ok (.agg #[.pointer (some ⟨4, 37, none⟩), .pointer (some p), .int .u64 386]) w := by kernel_rfl
theorem elemVPP (a p : Addr) (W : World) (ha : W.cell? a = some (.pointer (some p))) :
    (ReflectliteValue.method (ReflectliteValue.valueError "reflectlite.Value.Elem" 0) ReflectliteValue.elem #[.agg #[.pointer (some ⟨4, 31, none⟩), .pointer (some a), .int .u64 150]]).run Tryd.prog W
      = .ok (.agg #[.pointer (some ⟨4, 29, none⟩), .pointer (some p), .int .u64 406]) W := by
  rw [run_method (partsPP _ _)]
  simp [ReflectliteValue.elem, loadVar, isAgg, underlying, Tryd.underlying31, ha, Result.andThen, elemOfPP, mkP]
theorem elemVPE (a p : Addr) (W : World) (ha : W.cell? a = some (.pointer (some p))) :
    (ReflectliteValue.method (ReflectliteValue.valueError "reflectlite.Value.Elem" 0) ReflectliteValue.elem #[.agg #[.pointer (some ⟨4, 64, none⟩), .pointer (some a), .int .u64 150]]).run Tryd.prog W
      = .ok (.agg #[.pointer (some ⟨4, 37, none⟩), .pointer (some p), .int .u64 386]) W := by
  rw [run_method (partsPE _ _)]
  simp [ReflectliteValue.elem, loadVar, isAgg, underlying, Tryd.underlying64, ha, Result.andThen, elemOfPE, mkE]
theorem partsPa (a : Addr) (w : World) : (ReflectliteValue.parts (.agg #[.pointer (some ⟨4, 29, none⟩), .pointer (some a), .int .u64 406])).run Tryd.prog w = .ok (some (29, a, 406)) w := by kernel_rfl
theorem partsP (a : Addr) (w : World) : (ReflectliteValue.parts (.agg #[.pointer (some ⟨4, 29, none⟩), .pointer (some a), .int .u64 150])).run Tryd.prog w = .ok (some (29, a, 150)) w := by kernel_rfl
theorem partsEa (a : Addr) (w : World) : (ReflectliteValue.parts (.agg #[.pointer (some ⟨4, 37, none⟩), .pointer (some a), .int .u64 386])).run Tryd.prog w = .ok (some (37, a, 386)) w := by kernel_rfl
theorem partsE (a : Addr) (w : World) : (ReflectliteValue.parts (.agg #[.pointer (some ⟨4, 37, none⟩), .pointer (some a), .int .u64 130])).run Tryd.prog w = .ok (some (37, a, 130)) w := by kernel_rfl
theorem directP (w : World) : (Rtype.directlyAssignable 29 29).run Tryd.prog w = .ok true w := by kernel_rfl
theorem directE (w : World) : (Rtype.directlyAssignable 37 37).run Tryd.prog w = .ok true w := by kernel_rfl
theorem setP (ta b e : Addr) (old : Value) (W : World) (hb : W.cell? b = some (.pointer (some e))) (ht : W.cell? ta = some old) (hf : W.frozen? ta = false) :
    (ReflectliteValue.set #[.agg #[.pointer (some ⟨4, 29, none⟩), .pointer (some ta), .int .u64 406], .agg #[.pointer (some ⟨4, 29, none⟩), .pointer (some b), .int .u64 150]]).run Tryd.prog W
      = .ok (.tuple #[]) (W.setCell ta (.pointer (some e))) := by
  change (ReflectliteValue.parts (.agg #[.pointer (some ⟨4, 29, none⟩), .pointer (some ta), .int .u64 406]) >>= fun p => ReflectliteValue.parts (.agg #[.pointer (some ⟨4, 29, none⟩), .pointer (some b), .int .u64 150]) >>= _).run Tryd.prog W = _
  simp only [Sem.run_bind, partsPa, partsP, Result.andThen]
  simp [ReflectliteValue.flagAddr, loadVar, isAgg, underlying, Tryd.underlying29, hb, Result.andThen, directP, storeVar, Value.cells, storeCells, Addr.add]
  rw [run_store Tryd.prog W ta _ _ (by rfl)]
  simp [ht, hf]
theorem setE (ta b : Addr) (n : Int) (old : Value) (W : World) (hb : W.cell? b = some (.int .i64 n)) (ht : W.cell? ta = some old) (hf : W.frozen? ta = false) :
    (ReflectliteValue.set #[.agg #[.pointer (some ⟨4, 37, none⟩), .pointer (some ta), .int .u64 386], .agg #[.pointer (some ⟨4, 37, none⟩), .pointer (some b), .int .u64 130]]).run Tryd.prog W
      = .ok (.tuple #[]) (W.setCell ta (.int .i64 n)) := by
  change (ReflectliteValue.parts (.agg #[.pointer (some ⟨4, 37, none⟩), .pointer (some ta), .int .u64 386]) >>= fun p => ReflectliteValue.parts (.agg #[.pointer (some ⟨4, 37, none⟩), .pointer (some b), .int .u64 130]) >>= _).run Tryd.prog W = _
  simp only [Sem.run_bind, partsEa, partsE, Result.andThen]
  simp [ReflectliteValue.flagAddr, loadVar, isAgg, underlying, Tryd.underlying37, hb, Result.andThen, directE, storeVar, Value.cells, storeCells, Addr.add]
  rw [run_store Tryd.prog W ta _ _ (by rfl)]
  simp [ht, hf]
theorem noAsE (v : Value) (xT : TypeId) (w : World) : (Instr.typeAssert (.iface 37 v) xT 75 true).run Tryd.prog w = .ok (.tuple #[.nilIface, .bool false]) w := run_typeAssert_lacksB Tryd.underlying75 (by kernel_rfl) (by kernel_rfl) v xT w
theorem noAsF (v : Value) (xT : TypeId) (w : World) : (Instr.typeAssert (.iface 29 v) xT 75 true).run Tryd.prog w = .ok (.tuple #[.nilIface, .bool false]) w := run_typeAssert_lacksB Tryd.underlying75 (by kernel_rfl) (by kernel_rfl) v xT w
end Go.Proofs.YtpknhaemfpmpkaaDoor
