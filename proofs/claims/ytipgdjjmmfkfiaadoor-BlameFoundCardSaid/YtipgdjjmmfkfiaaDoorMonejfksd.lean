import Derived.Test.YtipgdjjmmfkfiaaDoorProg
import Derived.Test.YtipgdjjmmfkfiaaDoorMboafwkae
import Derived.WalkKit
import Derived.LaidEql
import Derived.Stop.Asserts
import Derived.RowKitTokens
import Derived.Deep.LoopGhost
namespace Go.Proofs.YtipgdjjmmfkfiaaDoor
open Go.RowKit Go.Proofs.YtipgdjjmmfkfiaaDoorW.PrintWords Go.Extern.Stop Go.Stop Go.Extern

theorem rlm (z : Sem Value) (f : TypeId → Addr → Nat → Nat → Sem Value) (v : Value) :
    ReflectliteValue.method z f #[v] = (do match ← ReflectliteValue.parts v with | none => z | some (t, a, fl) => f t a fl (fl % 32)) := rfl
theorem rls (v x : Value) : ReflectliteValue.set #[v, x] = (do
    let (some (dst, a, fl), some (src, b, _)) := (← ReflectliteValue.parts v, ← ReflectliteValue.parts x)
      | unsupported (.noEntry "extern/(internal/reflectlite.Value).Set.zeroValue")
    if fl / ReflectliteValue.flagAddr % 2 == 0 then unsupported (.noEntry "extern/(internal/reflectlite.Value).Set.unaddressable")
    let val ← loadVar src b
    if ← Rtype.directlyAssignable dst src then storeVar dst a val
    else if ← Rtype.implements dst src then
      if (← Rtype.kind src) == 20 then
        match val with
        | .nilIface => unsupported (.noEntry "extern/reflectlite: a nil value of one interface type handed on as a value of another")
        | _ => storeVar dst a val
      else storeVar dst a (.iface src val)
    else panicString ("reflectlite.Set: value of type " ++ (← Rtype.spelt src) ++ " is not assignable to type " ++ (← Rtype.spelt dst))
    pure (.tuple #[])) := rfl
theorem asMethod_Kind (h : Value) (w : World) : (Go.method 226 80 (.agg #[h]) "Kind").run Tryd.prog w = .ok (55, h) w := by kernel_rfl
theorem asMethod_Elem (h : Value) (w : World) : (Go.method 226 80 (.agg #[h]) "Elem").run Tryd.prog w = .ok (70, .agg #[h]) w := by kernel_rfl
theorem asMethod_Implements (h : Value) (w : World) : (Go.method 226 80 (.agg #[h]) "Implements").run Tryd.prog w = .ok (71, .agg #[h]) w := by kernel_rfl
theorem asMethod_AssignableTo (h : Value) (w : World) : (Go.method 226 80 (.agg #[h]) "AssignableTo").run Tryd.prog w = .ok (68, .agg #[h]) w := by kernel_rfl
theorem asMethod_Comparable (h : Value) (w : World) : (Go.method 226 80 (.agg #[h]) "Comparable").run Tryd.prog w = .ok (69, .agg #[h]) w := by kernel_rfl
theorem asCode_typeOf (v : Value) (w : World) : (ReflectliteType.typeOf #[.iface 22 v]).run Tryd.prog w = .ok (.iface 80 (.agg #[.pointer (some ⟨1, 22, none⟩)])) w := by kernel_rfl
theorem asCode_noAs (v : Value) (xT : TypeId) (w : World) : (Instr.typeAssert (.iface 22 v) xT 90 true).run Tryd.prog w = .ok (.tuple #[.nilIface, .bool false]) w := run_typeAssert_lacksB Tryd.underlying90 (by kernel_rfl) (by kernel_rfl) v xT w
theorem asCode_noIs (v : Value) (xT : TypeId) (w : World) : (Instr.typeAssert (.iface 22 v) xT 82 true).run Tryd.prog w = .ok (.tuple #[.nilIface, .bool false]) w := run_typeAssert_lacksB Tryd.underlying82 (by kernel_rfl) (by kernel_rfl) v xT w
theorem asCode_noUnwrap (v : Value) (xT : TypeId) (w : World) : (Instr.typeAssert (.iface 22 v) xT 75 true).run Tryd.prog w = .ok (.tuple #[.nilIface, .bool false]) w := run_typeAssert_lacksB Tryd.underlying75 (by kernel_rfl) (by kernel_rfl) v xT w
theorem asCode_noUnwraps (v : Value) (xT : TypeId) (w : World) : (Instr.typeAssert (.iface 22 v) xT 85 true).run Tryd.prog w = .ok (.tuple #[.nilIface, .bool false]) w := run_typeAssert_lacksB Tryd.underlying85 (by kernel_rfl) (by kernel_rfl) v xT w
theorem asWhere_typeOf (v : Value) (w : World) : (ReflectliteType.typeOf #[.iface 40 v]).run Tryd.prog w = .ok (.iface 80 (.agg #[.pointer (some ⟨1, 40, none⟩)])) w := by kernel_rfl
theorem asWhere_noAs (v : Value) (xT : TypeId) (w : World) : (Instr.typeAssert (.iface 40 v) xT 90 true).run Tryd.prog w = .ok (.tuple #[.nilIface, .bool false]) w := run_typeAssert_lacksB Tryd.underlying90 (by kernel_rfl) (by kernel_rfl) v xT w
theorem asWhere_noIs (v : Value) (xT : TypeId) (w : World) : (Instr.typeAssert (.iface 40 v) xT 82 true).run Tryd.prog w = .ok (.tuple #[.nilIface, .bool false]) w := run_typeAssert_lacksB Tryd.underlying82 (by kernel_rfl) (by kernel_rfl) v xT w
theorem asWhere_hasUnwrap (v : Value) (xT : TypeId) (w : World) : (Instr.typeAssert (.iface 40 v) xT 75 true).run Tryd.prog w = .ok (.tuple #[.iface 40 v, .bool true]) w := run_typeAssert_hasB Tryd.underlying75 (by kernel_rfl) v xT w
theorem asWhere_unwrapM (v : Value) (w : World) : (Go.method 226 40 v "Unwrap").run Tryd.prog w = .ok (60, v) w := by kernel_rfl
theorem asField_typeOf (v : Value) (w : World) : (ReflectliteType.typeOf #[.iface 41 v]).run Tryd.prog w = .ok (.iface 80 (.agg #[.pointer (some ⟨1, 41, none⟩)])) w := by kernel_rfl
theorem asField_noAs (v : Value) (xT : TypeId) (w : World) : (Instr.typeAssert (.iface 41 v) xT 90 true).run Tryd.prog w = .ok (.tuple #[.nilIface, .bool false]) w := run_typeAssert_lacksB Tryd.underlying90 (by kernel_rfl) (by kernel_rfl) v xT w
theorem asField_noIs (v : Value) (xT : TypeId) (w : World) : (Instr.typeAssert (.iface 41 v) xT 82 true).run Tryd.prog w = .ok (.tuple #[.nilIface, .bool false]) w := run_typeAssert_lacksB Tryd.underlying82 (by kernel_rfl) (by kernel_rfl) v xT w
theorem asField_hasUnwrap (v : Value) (xT : TypeId) (w : World) : (Instr.typeAssert (.iface 41 v) xT 75 true).run Tryd.prog w = .ok (.tuple #[.iface 41 v, .bool true]) w := run_typeAssert_hasB Tryd.underlying75 (by kernel_rfl) v xT w
theorem asField_unwrapM (v : Value) (w : World) : (Go.method 226 41 v "Unwrap").run Tryd.prog w = .ok (62, v) w := by kernel_rfl
theorem asOth_typeOf (v : Value) (w : World) : (ReflectliteType.typeOf #[.iface 58 v]).run Tryd.prog w = .ok (.iface 80 (.agg #[.pointer (some ⟨1, 58, none⟩)])) w := by kernel_rfl
theorem asOth_noAs (v : Value) (xT : TypeId) (w : World) : (Instr.typeAssert (.iface 58 v) xT 90 true).run Tryd.prog w = .ok (.tuple #[.nilIface, .bool false]) w := run_typeAssert_lacksB Tryd.underlying90 (by kernel_rfl) (by kernel_rfl) v xT w
theorem asOth_noIs (v : Value) (xT : TypeId) (w : World) : (Instr.typeAssert (.iface 58 v) xT 82 true).run Tryd.prog w = .ok (.tuple #[.nilIface, .bool false]) w := run_typeAssert_lacksB Tryd.underlying82 (by kernel_rfl) (by kernel_rfl) v xT w
theorem asOth_noUnwrap (v : Value) (xT : TypeId) (w : World) : (Instr.typeAssert (.iface 58 v) xT 75 true).run Tryd.prog w = .ok (.tuple #[.nilIface, .bool false]) w := run_typeAssert_lacksB Tryd.underlying75 (by kernel_rfl) (by kernel_rfl) v xT w
theorem asOth_noUnwraps (v : Value) (xT : TypeId) (w : World) : (Instr.typeAssert (.iface 58 v) xT 85 true).run Tryd.prog w = .ok (.tuple #[.nilIface, .bool false]) w := run_typeAssert_lacksB Tryd.underlying85 (by kernel_rfl) (by kernel_rfl) v xT w
/-! ### the target Code -/
theorem asCode_valueOfP (a : Addr) (w : World) : (ReflectliteValue.unpack (.iface 57 (.pointer (some a)))).run Tryd.prog w = .ok (.agg #[.pointer (some ⟨1, 57, none⟩), .pointer (some ⟨w.heap.size, 0, none⟩), .int .u64 150]) (w.alloc (.cells #[.pointer (some a)] 57)) := by kernel_rfl
theorem asCode_type (a : Addr) (w : World) : (ReflectliteValue.methodAny (ReflectliteValue.valueError "reflectlite.Value.Type" 0) (fun t _ _ _ => ReflectliteType.toType t) #[.agg #[.pointer (some ⟨1, 57, none⟩), .pointer (some a), .int .u64 150]]).run Tryd.prog w = .ok (.iface 80 (.agg #[.pointer (some ⟨1, 57, none⟩)])) w := by kernel_rfl
theorem asCode_kindP (w : World) : ((ReflectliteType.abiMethod fun t => (fun a : Nat => Value.int IntKind.u8 (a : Int)) <$> Rtype.kind t) #[.pointer (some ⟨1, 57, none⟩)]).run Tryd.prog w = .ok (.int .u8 22) w := by kernel_rfl
theorem asCode_kind (w : World) : ((ReflectliteType.abiMethod fun t => (fun a : Nat => Value.int IntKind.u8 (a : Int)) <$> Rtype.kind t) #[.pointer (some ⟨1, 22, none⟩)]).run Tryd.prog w = .ok (.int .u8 2) w := by kernel_rfl
theorem asCode_partsP (a : Addr) (w : World) : (ReflectliteValue.parts (.agg #[.pointer (some ⟨1, 57, none⟩), .pointer (some a), .int .u64 150])).run Tryd.prog w = .ok (some (57, a, 150)) w := by kernel_rfl
theorem asCode_isNil (a b : Addr) (W : World) (ha : W.cell? a = some (.pointer (some b))) :
    (ReflectliteValue.method (ReflectliteValue.valueError "reflectlite.Value.IsNil" 0) ReflectliteValue.isNil #[.agg #[.pointer (some ⟨1, 57, none⟩), .pointer (some a), .int .u64 150]]).run Tryd.prog W = .ok (.bool false) W := by
  rw [rlm]
  simp only [Sem.run_bind, asCode_partsP, Result.andThen]
  simp [ReflectliteValue.isNil, loadVar, isAgg, underlying, Tryd.underlying57, ha, Result.andThen]
theorem asCode_elem (w : World) : (ReflectliteType.method ReflectliteType.elem #[.agg #[.pointer (some ⟨1, 57, none⟩)]]).run Tryd.prog w = .ok (.iface 80 (.agg #[.pointer (some ⟨1, 22, none⟩)])) w := by kernel_rfl
theorem asCode_implements (w : World) : (ReflectliteType.relation "Implements" ReflectliteType.implements_ #[.agg #[.pointer (some ⟨1, 22, none⟩)], .iface 80 (.agg #[.pointer (some ⟨1, 26, none⟩)])]).run Tryd.prog w = .ok (.bool true) w := by kernel_rfl
theorem asCode_elemOfP (w : World) : (Rtype.elem? 57).run Tryd.prog w = .ok (some 22) w := by kernel_rfl
theorem asCode_mk (b : Addr) (w : World) : (ReflectliteValue.mk 22 b ReflectliteValue.flagAddr).run Tryd.prog w = .ok (.agg #[.pointer (some ⟨1, 22, none⟩), .pointer (some b), .int .u64 386]) w := by kernel_rfl
theorem asCode_elemV (a b : Addr) (W : World) (ha : W.cell? a = some (.pointer (some b))) :
    (ReflectliteValue.method (ReflectliteValue.valueError "reflectlite.Value.Elem" 0) ReflectliteValue.elem #[.agg #[.pointer (some ⟨1, 57, none⟩), .pointer (some a), .int .u64 150]]).run Tryd.prog W = .ok (.agg #[.pointer (some ⟨1, 22, none⟩), .pointer (some b), .int .u64 386]) W := by
  rw [rlm]
  simp only [Sem.run_bind, asCode_partsP, Result.andThen]
  simp [ReflectliteValue.elem, loadVar, isAgg, underlying, Tryd.underlying57, ha, Result.andThen, asCode_elemOfP, asCode_mk]
theorem asCode_partsA (a : Addr) (w : World) : (ReflectliteValue.parts (.agg #[.pointer (some ⟨1, 22, none⟩), .pointer (some a), .int .u64 386])).run Tryd.prog w = .ok (some (22, a, 386)) w := by kernel_rfl
theorem asCode_parts (a : Addr) (w : World) : (ReflectliteValue.parts (.agg #[.pointer (some ⟨1, 22, none⟩), .pointer (some a), .int .u64 130])).run Tryd.prog w = .ok (some (22, a, 130)) w := by kernel_rfl
theorem asCode_direct (w : World) : (Rtype.directlyAssignable 22 22).run Tryd.prog w = .ok true w := by kernel_rfl
theorem asCode_valueOf (c : Int) (w : World) : (ReflectliteValue.unpack (.iface 22 (.int .i64 c))).run Tryd.prog w = .ok (.agg #[.pointer (some ⟨1, 22, none⟩), .pointer (some ⟨w.heap.size, 0, none⟩), .int .u64 130]) (w.alloc (.cells #[.int .i64 c] 22)) := by kernel_rfl
theorem asCode_set (a b : Addr) (c : Int) (old : Value) (W : World) (hb : W.cell? b = some (.int .i64 c)) (ht : W.cell? a = some old) (hf : W.frozen? a = false) :
    (ReflectliteValue.set #[.agg #[.pointer (some ⟨1, 22, none⟩), .pointer (some a), .int .u64 386], .agg #[.pointer (some ⟨1, 22, none⟩), .pointer (some b), .int .u64 130]]).run Tryd.prog W = .ok (.tuple #[]) (W.setCell a (.int .i64 c)) := by
  rw [rls]
  simp only [Sem.run_bind, asCode_partsA, asCode_parts, Result.andThen]
  simp [ReflectliteValue.flagAddr, loadVar, isAgg, underlying, Tryd.underlying22, hb, Result.andThen, asCode_direct, storeVar, Value.cells, storeCells, Addr.add]
  rw [run_store Tryd.prog W a _ _ (by rfl)]
  simp [ht, hf]
/-! ### the target Where -/
theorem asWhere_valueOfP (a : Addr) (w : World) : (ReflectliteValue.unpack (.iface 43 (.pointer (some a)))).run Tryd.prog w = .ok (.agg #[.pointer (some ⟨1, 43, none⟩), .pointer (some ⟨w.heap.size, 0, none⟩), .int .u64 150]) (w.alloc (.cells #[.pointer (some a)] 43)) := by kernel_rfl
theorem asWhere_type (a : Addr) (w : World) : (ReflectliteValue.methodAny (ReflectliteValue.valueError "reflectlite.Value.Type" 0) (fun t _ _ _ => ReflectliteType.toType t) #[.agg #[.pointer (some ⟨1, 43, none⟩), .pointer (some a), .int .u64 150]]).run Tryd.prog w = .ok (.iface 80 (.agg #[.pointer (some ⟨1, 43, none⟩)])) w := by kernel_rfl
theorem asWhere_kindP (w : World) : ((ReflectliteType.abiMethod fun t => (fun a : Nat => Value.int IntKind.u8 (a : Int)) <$> Rtype.kind t) #[.pointer (some ⟨1, 43, none⟩)]).run Tryd.prog w = .ok (.int .u8 22) w := by kernel_rfl
theorem asWhere_kind (w : World) : ((ReflectliteType.abiMethod fun t => (fun a : Nat => Value.int IntKind.u8 (a : Int)) <$> Rtype.kind t) #[.pointer (some ⟨1, 40, none⟩)]).run Tryd.prog w = .ok (.int .u8 22) w := by kernel_rfl
theorem asWhere_partsP (a : Addr) (w : World) : (ReflectliteValue.parts (.agg #[.pointer (some ⟨1, 43, none⟩), .pointer (some a), .int .u64 150])).run Tryd.prog w = .ok (some (43, a, 150)) w := by kernel_rfl
theorem asWhere_isNil (a b : Addr) (W : World) (ha : W.cell? a = some (.pointer (some b))) :
    (ReflectliteValue.method (ReflectliteValue.valueError "reflectlite.Value.IsNil" 0) ReflectliteValue.isNil #[.agg #[.pointer (some ⟨1, 43, none⟩), .pointer (some a), .int .u64 150]]).run Tryd.prog W = .ok (.bool false) W := by
  rw [rlm]
  simp only [Sem.run_bind, asWhere_partsP, Result.andThen]
  simp [ReflectliteValue.isNil, loadVar, isAgg, underlying, Tryd.underlying43, ha, Result.andThen]
theorem asWhere_elem (w : World) : (ReflectliteType.method ReflectliteType.elem #[.agg #[.pointer (some ⟨1, 43, none⟩)]]).run Tryd.prog w = .ok (.iface 80 (.agg #[.pointer (some ⟨1, 40, none⟩)])) w := by kernel_rfl
theorem asWhere_implements (w : World) : (ReflectliteType.relation "Implements" ReflectliteType.implements_ #[.agg #[.pointer (some ⟨1, 40, none⟩)], .iface 80 (.agg #[.pointer (some ⟨1, 26, none⟩)])]).run Tryd.prog w = .ok (.bool true) w := by kernel_rfl
theorem asWhere_elemOfP (w : World) : (Rtype.elem? 43).run Tryd.prog w = .ok (some 40) w := by kernel_rfl
theorem asWhere_mk (b : Addr) (w : World) : (ReflectliteValue.mk 40 b ReflectliteValue.flagAddr).run Tryd.prog w = .ok (.agg #[.pointer (some ⟨1, 40, none⟩), .pointer (some b), .int .u64 406]) w := by kernel_rfl
theorem asWhere_elemV (a b : Addr) (W : World) (ha : W.cell? a = some (.pointer (some b))) :
    (ReflectliteValue.method (ReflectliteValue.valueError "reflectlite.Value.Elem" 0) ReflectliteValue.elem #[.agg #[.pointer (some ⟨1, 43, none⟩), .pointer (some a), .int .u64 150]]).run Tryd.prog W = .ok (.agg #[.pointer (some ⟨1, 40, none⟩), .pointer (some b), .int .u64 406]) W := by
  rw [rlm]
  simp only [Sem.run_bind, asWhere_partsP, Result.andThen]
  simp [ReflectliteValue.elem, loadVar, isAgg, underlying, Tryd.underlying43, ha, Result.andThen, asWhere_elemOfP, asWhere_mk]
theorem asWhere_partsA (a : Addr) (w : World) : (ReflectliteValue.parts (.agg #[.pointer (some ⟨1, 40, none⟩), .pointer (some a), .int .u64 406])).run Tryd.prog w = .ok (some (40, a, 406)) w := by kernel_rfl
theorem asWhere_parts (a : Addr) (w : World) : (ReflectliteValue.parts (.agg #[.pointer (some ⟨1, 40, none⟩), .pointer (some a), .int .u64 150])).run Tryd.prog w = .ok (some (40, a, 150)) w := by kernel_rfl
theorem asWhere_direct (w : World) : (Rtype.directlyAssignable 40 40).run Tryd.prog w = .ok true w := by kernel_rfl
theorem asWhere_valueOf (x : Addr) (w : World) : (ReflectliteValue.unpack (.iface 40 (.pointer (some x)))).run Tryd.prog w = .ok (.agg #[.pointer (some ⟨1, 40, none⟩), .pointer (some ⟨w.heap.size, 0, none⟩), .int .u64 150]) (w.alloc (.cells #[.pointer (some x)] 40)) := by kernel_rfl
theorem asWhere_set (a b : Addr) (x : Addr) (old : Value) (W : World) (hb : W.cell? b = some (.pointer (some x))) (ht : W.cell? a = some old) (hf : W.frozen? a = false) :
    (ReflectliteValue.set #[.agg #[.pointer (some ⟨1, 40, none⟩), .pointer (some a), .int .u64 406], .agg #[.pointer (some ⟨1, 40, none⟩), .pointer (some b), .int .u64 150]]).run Tryd.prog W = .ok (.tuple #[]) (W.setCell a (.pointer (some x))) := by
  rw [rls]
  simp only [Sem.run_bind, asWhere_partsA, asWhere_parts, Result.andThen]
  simp [ReflectliteValue.flagAddr, loadVar, isAgg, underlying, Tryd.underlying40, hb, Result.andThen, asWhere_direct, storeVar, Value.cells, storeCells, Addr.add]
  rw [run_store Tryd.prog W a _ _ (by rfl)]
  simp [ht, hf]
/-! ### the target Field -/
theorem asField_valueOfP (a : Addr) (w : World) : (ReflectliteValue.unpack (.iface 44 (.pointer (some a)))).run Tryd.prog w = .ok (.agg #[.pointer (some ⟨1, 44, none⟩), .pointer (some ⟨w.heap.size, 0, none⟩), .int .u64 150]) (w.alloc (.cells #[.pointer (some a)] 44)) := by kernel_rfl
theorem asField_type (a : Addr) (w : World) : (ReflectliteValue.methodAny (ReflectliteValue.valueError "reflectlite.Value.Type" 0) (fun t _ _ _ => ReflectliteType.toType t) #[.agg #[.pointer (some ⟨1, 44, none⟩), .pointer (some a), .int .u64 150]]).run Tryd.prog w = .ok (.iface 80 (.agg #[.pointer (some ⟨1, 44, none⟩)])) w := by kernel_rfl
theorem asField_kindP (w : World) : ((ReflectliteType.abiMethod fun t => (fun a : Nat => Value.int IntKind.u8 (a : Int)) <$> Rtype.kind t) #[.pointer (some ⟨1, 44, none⟩)]).run Tryd.prog w = .ok (.int .u8 22) w := by kernel_rfl
theorem asField_kind (w : World) : ((ReflectliteType.abiMethod fun t => (fun a : Nat => Value.int IntKind.u8 (a : Int)) <$> Rtype.kind t) #[.pointer (some ⟨1, 41, none⟩)]).run Tryd.prog w = .ok (.int .u8 22) w := by kernel_rfl
theorem asField_partsP (a : Addr) (w : World) : (ReflectliteValue.parts (.agg #[.pointer (some ⟨1, 44, none⟩), .pointer (some a), .int .u64 150])).run Tryd.prog w = .ok (some (44, a, 150)) w := by kernel_rfl
theorem asField_isNil (a b : Addr) (W : World) (ha : W.cell? a = some (.pointer (some b))) :
    (ReflectliteValue.method (ReflectliteValue.valueError "reflectlite.Value.IsNil" 0) ReflectliteValue.isNil #[.agg #[.pointer (some ⟨1, 44, none⟩), .pointer (some a), .int .u64 150]]).run Tryd.prog W = .ok (.bool false) W := by
  rw [rlm]
  simp only [Sem.run_bind, asField_partsP, Result.andThen]
  simp [ReflectliteValue.isNil, loadVar, isAgg, underlying, Tryd.underlying44, ha, Result.andThen]
theorem asField_elem (w : World) : (ReflectliteType.method ReflectliteType.elem #[.agg #[.pointer (some ⟨1, 44, none⟩)]]).run Tryd.prog w = .ok (.iface 80 (.agg #[.pointer (some ⟨1, 41, none⟩)])) w := by kernel_rfl
theorem asField_implements (w : World) : (ReflectliteType.relation "Implements" ReflectliteType.implements_ #[.agg #[.pointer (some ⟨1, 41, none⟩)], .iface 80 (.agg #[.pointer (some ⟨1, 26, none⟩)])]).run Tryd.prog w = .ok (.bool true) w := by kernel_rfl
theorem asField_elemOfP (w : World) : (Rtype.elem? 44).run Tryd.prog w = .ok (some 41) w := by kernel_rfl
theorem asField_mk (b : Addr) (w : World) : (ReflectliteValue.mk 41 b ReflectliteValue.flagAddr).run Tryd.prog w = .ok (.agg #[.pointer (some ⟨1, 41, none⟩), .pointer (some b), .int .u64 406]) w := by kernel_rfl
theorem asField_elemV (a b : Addr) (W : World) (ha : W.cell? a = some (.pointer (some b))) :
    (ReflectliteValue.method (ReflectliteValue.valueError "reflectlite.Value.Elem" 0) ReflectliteValue.elem #[.agg #[.pointer (some ⟨1, 44, none⟩), .pointer (some a), .int .u64 150]]).run Tryd.prog W = .ok (.agg #[.pointer (some ⟨1, 41, none⟩), .pointer (some b), .int .u64 406]) W := by
  rw [rlm]
  simp only [Sem.run_bind, asField_partsP, Result.andThen]
  simp [ReflectliteValue.elem, loadVar, isAgg, underlying, Tryd.underlying44, ha, Result.andThen, asField_elemOfP, asField_mk]
theorem asField_partsA (a : Addr) (w : World) : (ReflectliteValue.parts (.agg #[.pointer (some ⟨1, 41, none⟩), .pointer (some a), .int .u64 406])).run Tryd.prog w = .ok (some (41, a, 406)) w := by kernel_rfl
theorem asField_parts (a : Addr) (w : World) : (ReflectliteValue.parts (.agg #[.pointer (some ⟨1, 41, none⟩), .pointer (some a), .int .u64 150])).run Tryd.prog w = .ok (some (41, a, 150)) w := by kernel_rfl
theorem asField_direct (w : World) : (Rtype.directlyAssignable 41 41).run Tryd.prog w = .ok true w := by kernel_rfl
theorem asField_valueOf (x : Addr) (w : World) : (ReflectliteValue.unpack (.iface 41 (.pointer (some x)))).run Tryd.prog w = .ok (.agg #[.pointer (some ⟨1, 41, none⟩), .pointer (some ⟨w.heap.size, 0, none⟩), .int .u64 150]) (w.alloc (.cells #[.pointer (some x)] 41)) := by kernel_rfl
theorem asField_set (a b : Addr) (x : Addr) (old : Value) (W : World) (hb : W.cell? b = some (.pointer (some x))) (ht : W.cell? a = some old) (hf : W.frozen? a = false) :
    (ReflectliteValue.set #[.agg #[.pointer (some ⟨1, 41, none⟩), .pointer (some a), .int .u64 406], .agg #[.pointer (some ⟨1, 41, none⟩), .pointer (some b), .int .u64 150]]).run Tryd.prog W = .ok (.tuple #[]) (W.setCell a (.pointer (some x))) := by
  rw [rls]
  simp only [Sem.run_bind, asField_partsA, asField_parts, Result.andThen]
  simp [ReflectliteValue.flagAddr, loadVar, isAgg, underlying, Tryd.underlying41, hb, Result.andThen, asField_direct, storeVar, Value.cells, storeCells, Addr.add]
  rw [run_store Tryd.prog W a _ _ (by rfl)]
  simp [ht, hf]
theorem asCode_fromCode (w : World) : (ReflectliteType.relation "AssignableTo" ReflectliteType.assignableTo #[.agg #[.pointer (some ⟨1, 22, none⟩)], .iface 80 (.agg #[.pointer (some ⟨1, 22, none⟩)])]).run Tryd.prog w = .ok (.bool true) w := by kernel_rfl
theorem asCode_fromWhere (w : World) : (ReflectliteType.relation "AssignableTo" ReflectliteType.assignableTo #[.agg #[.pointer (some ⟨1, 40, none⟩)], .iface 80 (.agg #[.pointer (some ⟨1, 22, none⟩)])]).run Tryd.prog w = .ok (.bool false) w := by kernel_rfl
theorem asCode_fromField (w : World) : (ReflectliteType.relation "AssignableTo" ReflectliteType.assignableTo #[.agg #[.pointer (some ⟨1, 41, none⟩)], .iface 80 (.agg #[.pointer (some ⟨1, 22, none⟩)])]).run Tryd.prog w = .ok (.bool false) w := by kernel_rfl
theorem asCode_fromOth (w : World) : (ReflectliteType.relation "AssignableTo" ReflectliteType.assignableTo #[.agg #[.pointer (some ⟨1, 58, none⟩)], .iface 80 (.agg #[.pointer (some ⟨1, 22, none⟩)])]).run Tryd.prog w = .ok (.bool false) w := by kernel_rfl
theorem asWhere_fromCode (w : World) : (ReflectliteType.relation "AssignableTo" ReflectliteType.assignableTo #[.agg #[.pointer (some ⟨1, 22, none⟩)], .iface 80 (.agg #[.pointer (some ⟨1, 40, none⟩)])]).run Tryd.prog w = .ok (.bool false) w := by kernel_rfl
theorem asWhere_fromWhere (w : World) : (ReflectliteType.relation "AssignableTo" ReflectliteType.assignableTo #[.agg #[.pointer (some ⟨1, 40, none⟩)], .iface 80 (.agg #[.pointer (some ⟨1, 40, none⟩)])]).run Tryd.prog w = .ok (.bool true) w := by kernel_rfl
theorem asWhere_fromField (w : World) : (ReflectliteType.relation "AssignableTo" ReflectliteType.assignableTo #[.agg #[.pointer (some ⟨1, 41, none⟩)], .iface 80 (.agg #[.pointer (some ⟨1, 40, none⟩)])]).run Tryd.prog w = .ok (.bool false) w := by kernel_rfl
theorem asWhere_fromOth (w : World) : (ReflectliteType.relation "AssignableTo" ReflectliteType.assignableTo #[.agg #[.pointer (some ⟨1, 58, none⟩)], .iface 80 (.agg #[.pointer (some ⟨1, 40, none⟩)])]).run Tryd.prog w = .ok (.bool false) w := by kernel_rfl
theorem asField_fromCode (w : World) : (ReflectliteType.relation "AssignableTo" ReflectliteType.assignableTo #[.agg #[.pointer (some ⟨1, 22, none⟩)], .iface 80 (.agg #[.pointer (some ⟨1, 41, none⟩)])]).run Tryd.prog w = .ok (.bool false) w := by kernel_rfl
theorem asField_fromWhere (w : World) : (ReflectliteType.relation "AssignableTo" ReflectliteType.assignableTo #[.agg #[.pointer (some ⟨1, 40, none⟩)], .iface 80 (.agg #[.pointer (some ⟨1, 41, none⟩)])]).run Tryd.prog w = .ok (.bool false) w := by kernel_rfl
theorem asField_fromField (w : World) : (ReflectliteType.relation "AssignableTo" ReflectliteType.assignableTo #[.agg #[.pointer (some ⟨1, 41, none⟩)], .iface 80 (.agg #[.pointer (some ⟨1, 41, none⟩)])]).run Tryd.prog w = .ok (.bool true) w := by kernel_rfl
theorem asField_fromOth (w : World) : (ReflectliteType.relation "AssignableTo" ReflectliteType.assignableTo #[.agg #[.pointer (some ⟨1, 58, none⟩)], .iface 80 (.agg #[.pointer (some ⟨1, 41, none⟩)])]).run Tryd.prog w = .ok (.bool false) w := by kernel_rfl
end Go.Proofs.YtipgdjjmmfkfiaaDoor
