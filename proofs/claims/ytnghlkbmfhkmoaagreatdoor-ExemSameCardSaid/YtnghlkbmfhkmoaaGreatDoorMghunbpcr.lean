import Derived.Test.YtnghlkbmfhkmoaaGreatDoorProg
import Derived.Test.YtnghlkbmfhkmoaaGreatDoorMxtowkptp
import Derived.Test.YtnghlkbmfhkmoaaGreatDoorMvjyhaahm
import Derived.WalkKit
import Derived.LaidEql
import Derived.Stop.Asserts
import Derived.RowKitTokens
import Derived.Deep.LoopGhost
namespace Go.Proofs.YtnghlkbmfhkmoaaGreatDoor
open Go.RowKit Go.Proofs.YtnghlkbmfhkmoaaGreatDoorW.PrintWords Go.Extern.Stop Go.Stop Go.Extern

theorem rlm (z : Sem Value) (f : TypeId → Addr → Nat → Nat → Sem Value) (v : Value) :
    ReflectliteValue.method z f #[v] = (do match ← ReflectliteValue.parts v with | none => z | some (t, a, fl) => f t a fl (fl % 32)) := rfl
theorem rls (v x : Value) : ReflectliteValue.set #[v, x] = (do
    let (some (dst, a, fl), some (src, b, _)) := (← ReflectliteValue.parts v, ← ReflectliteValue.parts x)
      | unsupported (.noEntry "extern/(internal/reflectlite.Value).Set.zeroValue")
    if fl / ReflectliteValue.flagAddr % 2 == 0 then unsupported (.noEntry "extern/(internal/reflectlite.Value).Set.unaddressable")
    let val ← loadVar src b
    if ← Rtype.directlyAssignable dst src then storeVar dst a val
    else if ← Rtype.implements dst src then
      if (← Rtype.kind src) == 20 then
        match val with
        | .nilIface => unsupported (.noEntry "extern/reflectlite: a nil value of one interface type handed on as a value of another")
        | _ => storeVar dst a val
      else storeVar dst a (.iface src val)
    else panicString ("reflectlite.Set: value of type " ++ (← Rtype.spelt src) ++ " is not assignable to type " ++ (← Rtype.spelt dst))
    pure (.tuple #[])) := rfl
theorem asMethod_Kind (h : Value) (w : World) : (Go.method 293 118 (.agg #[h]) "Kind").run Tryz.prog w = .ok (136, h) w := by kernel_rfl
theorem asMethod_Elem (h : Value) (w : World) : (Go.method 293 118 (.agg #[h]) "Elem").run Tryz.prog w = .ok (147, .agg #[h]) w := by kernel_rfl
theorem asMethod_Implements (h : Value) (w : World) : (Go.method 293 118 (.agg #[h]) "Implements").run Tryz.prog w = .ok (148, .agg #[h]) w := by kernel_rfl
theorem asMethod_AssignableTo (h : Value) (w : World) : (Go.method 293 118 (.agg #[h]) "AssignableTo").run Tryz.prog w = .ok (145, .agg #[h]) w := by kernel_rfl

theorem asCode_typeOf (v : Value) (w : World) : (ReflectliteType.typeOf #[.iface 36 v]).run Tryz.prog w = .ok (.iface 118 (.agg #[.pointer (some ⟨1, 36, none⟩)])) w := by kernel_rfl
theorem asCode_noAs (v : Value) (xT : TypeId) (w : World) : (Instr.typeAssert (.iface 36 v) xT 123 true).run Tryz.prog w = .ok (.tuple #[.nilIface, .bool false]) w := run_typeAssert_lacksB Tryz.underlying123 (by kernel_rfl) (by kernel_rfl) v xT w

/-! ### the target Code -/
theorem asCode_valueOfP (a : Addr) (w : World) : (ReflectliteValue.unpack (.iface 72 (.pointer (some a)))).run Tryz.prog w = .ok (.agg #[.pointer (some ⟨1, 72, none⟩), .pointer (some ⟨w.heap.size, 0, none⟩), .int .u64 150]) (w.alloc (.cells #[.pointer (some a)] 72)) := by kernel_rfl
theorem asCode_type (a : Addr) (w : World) : (ReflectliteValue.methodAny (ReflectliteValue.valueError "reflectlite.Value.Type" 0) (fun t _ _ _ => ReflectliteType.toType t) #[.agg #[.pointer (some ⟨1, 72, none⟩), .pointer (some a), .int .u64 150]]).run Tryz.prog w = .ok (.iface 118 (.agg #[.pointer (some ⟨1, 72, none⟩)])) w := by kernel_rfl
theorem asCode_kindP (w : World) : ((ReflectliteType.abiMethod fun t => (fun a : Nat => Value.int IntKind.u8 (a : Int)) <$> Rtype.kind t) #[.pointer (some ⟨1, 72, none⟩)]).run Tryz.prog w = .ok (.int .u8 22) w := by kernel_rfl
theorem asCode_kind (w : World) : ((ReflectliteType.abiMethod fun t => (fun a : Nat => Value.int IntKind.u8 (a : Int)) <$> Rtype.kind t) #[.pointer (some ⟨1, 36, none⟩)]).run Tryz.prog w = .ok (.int .u8 2) w := by kernel_rfl
theorem asCode_partsP (a : Addr) (w : World) : (ReflectliteValue.parts (.agg #[.pointer (some ⟨1, 72, none⟩), .pointer (some a), .int .u64 150])).run Tryz.prog w = .ok (some (72, a, 150)) w := by kernel_rfl
theorem asCode_isNil (a b : Addr) (W : World) (ha : W.cell? a = some (.pointer (some b))) :
    (ReflectliteValue.method (ReflectliteValue.valueError "reflectlite.Value.IsNil" 0) ReflectliteValue.isNil #[.agg #[.pointer (some ⟨1, 72, none⟩), .pointer (some a), .int .u64 150]]).run Tryz.prog W = .ok (.bool false) W := by
  rw [rlm]
  simp only [Sem.run_bind, asCode_partsP, Result.andThen]
  simp [ReflectliteValue.isNil, loadVar, isAgg, underlying, Tryz.underlying72, ha, Result.andThen]
theorem asCode_elem (w : World) : (ReflectliteType.method ReflectliteType.elem #[.agg #[.pointer (some ⟨1, 72, none⟩)]]).run Tryz.prog w = .ok (.iface 118 (.agg #[.pointer (some ⟨1, 36, none⟩)])) w := by kernel_rfl
theorem asCode_implements (w : World) : (ReflectliteType.relation "Implements" ReflectliteType.implements_ #[.agg #[.pointer (some ⟨1, 36, none⟩)], .iface 118 (.agg #[.pointer (some ⟨1, 31, none⟩)])]).run Tryz.prog w = .ok (.bool true) w := by kernel_rfl
theorem asCode_elemOfP (w : World) : (Rtype.elem? 72).run Tryz.prog w = .ok (some 36) w := by kernel_rfl
theorem asCode_mk (b : Addr) (w : World) : (ReflectliteValue.mk 36 b ReflectliteValue.flagAddr).run Tryz.prog w = .ok (.agg #[.pointer (some ⟨1, 36, none⟩), .pointer (some b), .int .u64 386]) w := by kernel_rfl
theorem asCode_elemV (a b : Addr) (W : World) (ha : W.cell? a = some (.pointer (some b))) :
    (ReflectliteValue.method (ReflectliteValue.valueError "reflectlite.Value.Elem" 0) ReflectliteValue.elem #[.agg #[.pointer (some ⟨1, 72, none⟩), .pointer (some a), .int .u64 150]]).run Tryz.prog W = .ok (.agg #[.pointer (some ⟨1, 36, none⟩), .pointer (some b), .int .u64 386]) W := by
  rw [rlm]
  simp only [Sem.run_bind, asCode_partsP, Result.andThen]
  simp [ReflectliteValue.elem, loadVar, isAgg, underlying, Tryz.underlying72, ha, Result.andThen, asCode_elemOfP, asCode_mk]
theorem asCode_partsA (a : Addr) (w : World) : (ReflectliteValue.parts (.agg #[.pointer (some ⟨1, 36, none⟩), .pointer (some a), .int .u64 386])).run Tryz.prog w = .ok (some (36, a, 386)) w := by kernel_rfl
theorem asCode_parts (a : Addr) (w : World) : (ReflectliteValue.parts (.agg #[.pointer (some ⟨1, 36, none⟩), .pointer (some a), .int .u64 130])).run Tryz.prog w = .ok (some (36, a, 130)) w := by kernel_rfl
theorem asCode_direct (w : World) : (Rtype.directlyAssignable 36 36).run Tryz.prog w = .ok true w := by kernel_rfl
theorem asCode_valueOf (c : Int) (w : World) : (ReflectliteValue.unpack (.iface 36 (.int .i64 c))).run Tryz.prog w = .ok (.agg #[.pointer (some ⟨1, 36, none⟩), .pointer (some ⟨w.heap.size, 0, none⟩), .int .u64 130]) (w.alloc (.cells #[.int .i64 c] 36)) := by kernel_rfl
theorem asCode_set (a b : Addr) (c : Int) (old : Value) (W : World) (hb : W.cell? b = some (.int .i64 c)) (ht : W.cell? a = some old) (hf : W.frozen? a = false) :
    (ReflectliteValue.set #[.agg #[.pointer (some ⟨1, 36, none⟩), .pointer (some a), .int .u64 386], .agg #[.pointer (some ⟨1, 36, none⟩), .pointer (some b), .int .u64 130]]).run Tryz.prog W = .ok (.tuple #[]) (W.setCell a (.int .i64 c)) := by
  rw [rls]
  simp only [Sem.run_bind, asCode_partsA, asCode_parts, Result.andThen]
  simp [ReflectliteValue.flagAddr, loadVar, isAgg, underlying, Tryz.underlying36, hb, Result.andThen, asCode_direct, storeVar, Value.cells, storeCells, Addr.add]
  rw [run_store Tryz.prog W a _ _ (by rfl)]
  simp [ht, hf]

theorem asCode_fromCode (w : World) : (ReflectliteType.relation "AssignableTo" ReflectliteType.assignableTo #[.agg #[.pointer (some ⟨1, 36, none⟩)], .iface 118 (.agg #[.pointer (some ⟨1, 36, none⟩)])]).run Tryz.prog w = .ok (.bool true) w := by kernel_rfl
theorem asCode_fromWhere (w : World) : (ReflectliteType.relation "AssignableTo" ReflectliteType.assignableTo #[.agg #[.pointer (some ⟨1, 162, none⟩)], .iface 118 (.agg #[.pointer (some ⟨1, 36, none⟩)])]).run Tryz.prog w = .ok (.bool false) w := by kernel_rfl
theorem asCode_noUnwrap (v : Value) (xT : TypeId) (w : World) : (Instr.typeAssert (.iface 36 v) xT 126 true).run Tryz.prog w = .ok (.tuple #[.nilIface, .bool false]) w := run_typeAssert_lacksB Tryz.underlying126 (by kernel_rfl) (by kernel_rfl) v xT w
theorem asCode_noUnwraps (v : Value) (xT : TypeId) (w : World) : (Instr.typeAssert (.iface 36 v) xT 128 true).run Tryz.prog w = .ok (.tuple #[.nilIface, .bool false]) w := run_typeAssert_lacksB Tryz.underlying128 (by kernel_rfl) (by kernel_rfl) v xT w

theorem asWhere_typeOf (v : Value) (w : World) : (ReflectliteType.typeOf #[.iface 162 v]).run Tryz.prog w = .ok (.iface 118 (.agg #[.pointer (some ⟨1, 162, none⟩)])) w := by kernel_rfl
theorem asWhere_noAs (v : Value) (xT : TypeId) (w : World) : (Instr.typeAssert (.iface 162 v) xT 123 true).run Tryz.prog w = .ok (.tuple #[.nilIface, .bool false]) w := run_typeAssert_lacksB Tryz.underlying123 (by kernel_rfl) (by kernel_rfl) v xT w


theorem asWhere_hasUnwrap (v : Value) (xT : TypeId) (w : World) : (Instr.typeAssert (.iface 162 v) xT 126 true).run Tryz.prog w = .ok (.tuple #[.iface 162 v, .bool true]) w := run_typeAssert_hasB Tryz.underlying126 (by kernel_rfl) v xT w
theorem asWhere_unwrapM (v : Value) (w : World) : (Go.method 293 162 v "Unwrap").run Tryz.prog w = .ok (156, v) w := by kernel_rfl
end Go.Proofs.YtnghlkbmfhkmoaaGreatDoor
