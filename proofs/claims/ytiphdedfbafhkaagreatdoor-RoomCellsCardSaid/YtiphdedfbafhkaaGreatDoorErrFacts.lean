/- Closed facts of the translation that errors.Is leans on: what reflectlite says of api.Errno, and which methods the errors have. No condition. -/
import Derived.Test.YtiphdedfbafhkaaGreatDoorCells2
import Derived.LaidEql
import Derived.Stop.Asserts
import Derived.RowKitTokens
namespace Go.Proofs.YtiphdedfbafhkaaGreatDoor
open Go.RowKit Go.Extern.Stop Go.Stop Go.Extern

theorem equalIn_iface_int {P : Program} (w : World) (d : Nat) {ti tn : TypeId} {ms : Array (String × TypeId)} {i : TypeInfo} {k : IntKind} (a b : Int)
    (hi : P.underlying ti = some (.interface ms)) (hn : P.underlying tn = some (.int k)) (hinfo : P.info? tn = some i) (hc : i.comparable = true) :
    (Op.equalIn (d + 2) ti (.iface tn (.int k a)) (.iface tn (.int k b))).run P w = .ok (a == b) w := by
  simp [Op.equalIn, run_underlying hi, run_underlying hn, typeInfo, hinfo, hc]

theorem eql_iface_int {P : Program} (w : World) {ti tn : TypeId} {ms : Array (String × TypeId)} {i : TypeInfo} {k : IntKind} (a b : Int)
    (hi : P.underlying ti = some (.interface ms)) (hn : P.underlying tn = some (.int k)) (hinfo : P.info? tn = some i) (hc : i.comparable = true) :
    (binOp .eql ti (.iface tn (.int k a)) (.iface tn (.int k b))).run P w = .ok (.bool (a == b)) w := by
  simp only [binOp]
  simp [Op.equal, Op.maxDepth, equalIn_iface_int w 9998 a b hi hn hinfo hc]

theorem Tryz.isTypeOf (v : Value) (w : World) : (callFunc 114 #[.iface 98 v]).run Tryz.prog w = .ok (.value (.iface 235 (.agg #[.pointer (some ⟨2, 98, none⟩)]))) w := by kernel_rfl
theorem Tryz.isComparable (w : World) : (callFunc 178 #[.agg #[.pointer (some ⟨2, 98, none⟩)]]).run Tryz.prog w = .ok (.value (.bool true)) w := by kernel_rfl
theorem Tryz.isMethodComparable (v : Value) (w : World) : (Go.method 389 235 v "Comparable").run Tryz.prog w = .ok (178, v) w := by kernel_rfl
theorem Tryz.isComp : (Tryz.prog.info? 98).map (·.comparable) = some true := by kernel_rfl
theorem Tryz.noIsE (v : Value) (xT : TypeId) (w : World) : (Instr.typeAssert (.iface 98 v) xT 237 true).run Tryz.prog w = .ok (.tuple #[.nilIface, .bool false]) w := run_typeAssert_lacksB Tryz.underlying237 (by kernel_rfl) (by kernel_rfl) v xT w
theorem Tryz.noUnwrapE (v : Value) (xT : TypeId) (w : World) : (Instr.typeAssert (.iface 98 v) xT 240 true).run Tryz.prog w = .ok (.tuple #[.nilIface, .bool false]) w := run_typeAssert_lacksB Tryz.underlying240 (by kernel_rfl) (by kernel_rfl) v xT w
theorem Tryz.noUnwrapsE (v : Value) (xT : TypeId) (w : World) : (Instr.typeAssert (.iface 98 v) xT 242 true).run Tryz.prog w = .ok (.tuple #[.nilIface, .bool false]) w := run_typeAssert_lacksB Tryz.underlying242 (by kernel_rfl) (by kernel_rfl) v xT w
theorem Tryz.noIsF (v : Value) (xT : TypeId) (w : World) : (Instr.typeAssert (.iface 179 v) xT 237 true).run Tryz.prog w = .ok (.tuple #[.nilIface, .bool false]) w := run_typeAssert_lacksB Tryz.underlying237 (by kernel_rfl) (by kernel_rfl) v xT w
theorem Tryz.hasUnwrapF (v : Value) (xT : TypeId) (w : World) : (Instr.typeAssert (.iface 179 v) xT 240 true).run Tryz.prog w = .ok (.tuple #[.iface 179 v, .bool true]) w := run_typeAssert_hasB Tryz.underlying240 (by kernel_rfl) v xT w
theorem Tryz.methodUnwrap (v : Value) (w : World) : (Go.method 389 179 v "Unwrap").run Tryz.prog w = .ok (174, v) w := by kernel_rfl

end Go.Proofs.YtiphdedfbafhkaaGreatDoor
