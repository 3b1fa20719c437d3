/- Closed facts of the translation that errors.Is leans on: what reflectlite says of api.Errno, and which methods the errors have. No condition. -/
import Derived.Test.YtmhhhiegioniaaaCells2
import Derived.LaidEql
import Derived.Stop.Asserts
import Derived.RowKitTokens
namespace Go.Proofs.Ytmhhhiegioniaaa
open Go.RowKit Go.Extern.Stop Go.Stop Go.Extern

theorem equalIn_iface_int {P : Program} (w : World) (d : Nat) {ti tn : TypeId} {ms : Array (String × TypeId)} {i : TypeInfo} {k : IntKind} (a b : Int)
    (hi : P.underlying ti = some (.interface ms)) (hn : P.underlying tn = some (.int k)) (hinfo : P.info? tn = some i) (hc : i.comparable = true) :
    (Op.equalIn (d + 2) ti (.iface tn (.int k a)) (.iface tn (.int k b))).run P w = .ok (a == b) w := by
  simp [Op.equalIn, run_underlying hi, run_underlying hn, typeInfo, hinfo, hc]

theorem eql_iface_int {P : Program} (w : World) {ti tn : TypeId} {ms : Array (String × TypeId)} {i : TypeInfo} {k : IntKind} (a b : Int)
    (hi : P.underlying ti = some (.interface ms)) (hn : P.underlying tn = some (.int k)) (hinfo : P.info? tn = some i) (hc : i.comparable = true) :
    (binOp .eql ti (.iface tn (.int k a)) (.iface tn (.int k b))).run P w = .ok (.bool (a == b)) w := by
  simp only [binOp]
  simp [Op.equal, Op.maxDepth, equalIn_iface_int w 9998 a b hi hn hinfo hc]

theorem Try.isTypeOf (v : Value) (w : World) : (callFunc 121 #[.iface 152 v]).run Try.prog w = .ok (.value (.iface 189 (.agg #[.pointer (some ⟨0, 152, none⟩)]))) w := by kernel_rfl
theorem Try.isComparable (w : World) : (callFunc 148 #[.agg #[.pointer (some ⟨0, 152, none⟩)]]).run Try.prog w = .ok (.value (.bool true)) w := by kernel_rfl
theorem Try.isMethodComparable (v : Value) (w : World) : (Go.method 333 189 v "Comparable").run Try.prog w = .ok (148, v) w := by kernel_rfl
theorem Try.isComp : (Try.prog.info? 152).map (·.comparable) = some true := by kernel_rfl
theorem Try.noIsE (v : Value) (xT : TypeId) (w : World) : (Instr.typeAssert (.iface 152 v) xT 191 true).run Try.prog w = .ok (.tuple #[.nilIface, .bool false]) w := run_typeAssert_lacksB Try.underlying191 (by kernel_rfl) (by kernel_rfl) v xT w
theorem Try.noUnwrapE (v : Value) (xT : TypeId) (w : World) : (Instr.typeAssert (.iface 152 v) xT 194 true).run Try.prog w = .ok (.tuple #[.nilIface, .bool false]) w := run_typeAssert_lacksB Try.underlying194 (by kernel_rfl) (by kernel_rfl) v xT w
theorem Try.noUnwrapsE (v : Value) (xT : TypeId) (w : World) : (Instr.typeAssert (.iface 152 v) xT 196 true).run Try.prog w = .ok (.tuple #[.nilIface, .bool false]) w := run_typeAssert_lacksB Try.underlying196 (by kernel_rfl) (by kernel_rfl) v xT w
theorem Try.noIsF (v : Value) (xT : TypeId) (w : World) : (Instr.typeAssert (.iface 179 v) xT 191 true).run Try.prog w = .ok (.tuple #[.nilIface, .bool false]) w := run_typeAssert_lacksB Try.underlying191 (by kernel_rfl) (by kernel_rfl) v xT w
theorem Try.hasUnwrapF (v : Value) (xT : TypeId) (w : World) : (Instr.typeAssert (.iface 179 v) xT 194 true).run Try.prog w = .ok (.tuple #[.iface 179 v, .bool true]) w := run_typeAssert_hasB Try.underlying194 (by kernel_rfl) v xT w
theorem Try.methodUnwrap (v : Value) (w : World) : (Go.method 333 179 v "Unwrap").run Try.prog w = .ok (144, v) w := by kernel_rfl

end Go.Proofs.Ytmhhhiegioniaaa
