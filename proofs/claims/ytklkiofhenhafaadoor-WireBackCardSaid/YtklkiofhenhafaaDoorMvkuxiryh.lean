import Derived.Test.YtklkiofhenhafaaDoorProg
import Derived.Test.YtklkiofhenhafaaDoorMvfktlwbf
import Derived.Test.YtklkiofhenhafaaDoorMgabaxjxe
import Derived.WalkKit
import Derived.LaidEql
import Derived.Stop.Asserts
import Derived.RowKitTokens
import Derived.Deep.LoopGhost
import Derived.Test.YtklkiofhenhafaaDoorRows
import Derived.LaidLaws
import Derived.LaidHandle
import Derived.Stop.Joined
namespace Go.Proofs.YtklkiofhenhafaaDoor
open Go.RowKit Go.Proofs.YtklkiofhenhafaaDoorW.PrintWords Go.Extern.Stop Go.Stop Go.Extern

theorem rlm (z : Sem Value) (f : TypeId → Addr → Nat → Nat → Sem Value) (v : Value) :
    ReflectliteValue.method z f #[v] = (do match ← ReflectliteValue.parts v with | none => z | some (t, a, fl) => f t a fl (fl % 32)) := rfl
theorem rls (v x : Value) : ReflectliteValue.set #[v, x] = (do
    let (some (dst, a, fl), some (src, b, _)) := (← ReflectliteValue.parts v, ← ReflectliteValue.parts x)
      | unsupported (.noEntry "extern/(internal/reflectlite.Value).Set.zeroValue")
    if fl / ReflectliteValue.flagAddr % 2 == 0 then unsupported (.noEntry "extern/(internal/reflectlite.Value).Set.unaddressable")
    let val ← loadVar src b
    if ← Rtype.directlyAssignable dst src then storeVar dst a val
    else if ← Rtype.implements dst src then
      if (← Rtype.kind src) == 20 then
        match val with
        | .nilIface => unsupported (.noEntry "extern/reflectlite: a nil value of one interface type handed on as a value of another")
        | _ => storeVar dst a val
      else storeVar dst a (.iface src val)
    else panicString ("reflectlite.Set: value of type " ++ (← Rtype.spelt src) ++ " is not assignable to type " ++ (← Rtype.spelt dst))
    pure (.tuple #[])) := rfl
theorem asMethod_Kind (h : Value) (w : World) : (Go.method 248 104 (.agg #[h]) "Kind").run Tryd.prog w = .ok (70, h) w := by kernel_rfl
theorem asMethod_Elem (h : Value) (w : World) : (Go.method 248 104 (.agg #[h]) "Elem").run Tryd.prog w = .ok (82, .agg #[h]) w := by kernel_rfl
theorem asMethod_Implements (h : Value) (w : World) : (Go.method 248 104 (.agg #[h]) "Implements").run Tryd.prog w = .ok (83, .agg #[h]) w := by kernel_rfl
theorem asMethod_AssignableTo (h : Value) (w : World) : (Go.method 248 104 (.agg #[h]) "AssignableTo").run Tryd.prog w = .ok (80, .agg #[h]) w := by kernel_rfl

theorem asCode_typeOf (v : Value) (w : World) : (ReflectliteType.typeOf #[.iface 35 v]).run Tryd.prog w = .ok (.iface 104 (.agg #[.pointer (some ⟨1, 35, none⟩)])) w := by kernel_rfl
theorem asCode_noAs (v : Value) (xT : TypeId) (w : World) : (Instr.typeAssert (.iface 35 v) xT 109 true).run Tryd.prog w = .ok (.tuple #[.nilIface, .bool false]) w := run_typeAssert_lacksB Tryd.underlying109 (by kernel_rfl) (by kernel_rfl) v xT w

/-! ### the target Code -/
theorem asCode_valueOfP (a : Addr) (w : World) : (ReflectliteValue.unpack (.iface 73 (.pointer (some a)))).run Tryd.prog w = .ok (.agg #[.pointer (some ⟨1, 73, none⟩), .pointer (some ⟨w.heap.size, 0, none⟩), .int .u64 150]) (w.alloc (.cells #[.pointer (some a)] 73)) := by kernel_rfl
theorem asCode_type (a : Addr) (w : World) : (ReflectliteValue.methodAny (ReflectliteValue.valueError "reflectlite.Value.Type" 0) (fun t _ _ _ => ReflectliteType.toType t) #[.agg #[.pointer (some ⟨1, 73, none⟩), .pointer (some a), .int .u64 150]]).run Tryd.prog w = .ok (.iface 104 (.agg #[.pointer (some ⟨1, 73, none⟩)])) w := by kernel_rfl
theorem asCode_kindP (w : World) : ((ReflectliteType.abiMethod fun t => (fun a : Nat => Value.int IntKind.u8 (a : Int)) <$> Rtype.kind t) #[.pointer (some ⟨1, 73, none⟩)]).run Tryd.prog w = .ok (.int .u8 22) w := by kernel_rfl
theorem asCode_kind (w : World) : ((ReflectliteType.abiMethod fun t => (fun a : Nat => Value.int IntKind.u8 (a : Int)) <$> Rtype.kind t) #[.pointer (some ⟨1, 35, none⟩)]).run Tryd.prog w = .ok (.int .u8 2) w := by kernel_rfl
theorem asCode_partsP (a : Addr) (w : World) : (ReflectliteValue.parts (.agg #[.pointer (some ⟨1, 73, none⟩), .pointer (some a), .int .u64 150])).run Tryd.prog w = .ok (some (73, a, 150)) w := by kernel_rfl
theorem asCode_isNil (a b : Addr) (W : World) (ha : W.cell? a = some (.pointer (some b))) :
    (ReflectliteValue.method (ReflectliteValue.valueError "reflectlite.Value.IsNil" 0) ReflectliteValue.isNil #[.agg #[.pointer (some ⟨1, 73, none⟩), .pointer (some a), .int .u64 150]]).run Tryd.prog W = .ok (.bool false) W := by
  rw [rlm]
  simp only [Sem.run_bind, asCode_partsP, Result.andThen]
  simp [ReflectliteValue.isNil, loadVar, isAgg, underlying, Tryd.underlying73, ha, Result.andThen]
theorem asCode_elem (w : World) : (ReflectliteType.method ReflectliteType.elem #[.agg #[.pointer (some ⟨1, 73, none⟩)]]).run Tryd.prog w = .ok (.iface 104 (.agg #[.pointer (some ⟨1, 35, none⟩)])) w := by kernel_rfl
theorem asCode_implements (w : World) : (ReflectliteType.relation "Implements" ReflectliteType.implements_ #[.agg #[.pointer (some ⟨1, 35, none⟩)], .iface 104 (.agg #[.pointer (some ⟨1, 27, none⟩)])]).run Tryd.prog w = .ok (.bool true) w := by kernel_rfl
theorem asCode_elemOfP (w : World) : (Rtype.elem? 73).run Tryd.prog w = .ok (some 35) w := by kernel_rfl
theorem asCode_mk (b : Addr) (w : World) : (ReflectliteValue.mk 35 b ReflectliteValue.flagAddr).run Tryd.prog w = .ok (.agg #[.pointer (some ⟨1, 35, none⟩), .pointer (some b), .int .u64 386]) w := by kernel_rfl
theorem asCode_elemV (a b : Addr) (W : World) (ha : W.cell? a = some (.pointer (some b))) :
    (ReflectliteValue.method (ReflectliteValue.valueError "reflectlite.Value.Elem" 0) ReflectliteValue.elem #[.agg #[.pointer (some ⟨1, 73, none⟩), .pointer (some a), .int .u64 150]]).run Tryd.prog W = .ok (.agg #[.pointer (some ⟨1, 35, none⟩), .pointer (some b), .int .u64 386]) W := by
  rw [rlm]
  simp only [Sem.run_bind, asCode_partsP, Result.andThen]
  simp [ReflectliteValue.elem, loadVar, isAgg, underlying, Tryd.underlying73, ha, Result.andThen, asCode_elemOfP, asCode_mk]
theorem asCode_partsA (a : Addr) (w : World) : (ReflectliteValue.parts (.agg #[.pointer (some ⟨1, 35, none⟩), .pointer (some a), .int .u64 386])).run Tryd.prog w = .ok (some (35, a, 386)) w := by kernel_rfl
theorem asCode_parts (a : Addr) (w : World) : (ReflectliteValue.parts (.agg #[.pointer (some ⟨1, 35, none⟩), .pointer (some a), .int .u64 130])).run Tryd.prog w = .ok (some (35, a, 130)) w := by kernel_rfl
theorem asCode_direct (w : World) : (Rtype.directlyAssignable 35 35).run Tryd.prog w = .ok true w := by kernel_rfl
theorem asCode_valueOf (c : Int) (w : World) : (ReflectliteValue.unpack (.iface 35 (.int .i64 c))).run Tryd.prog w = .ok (.agg #[.pointer (some ⟨1, 35, none⟩), .pointer (some ⟨w.heap.size, 0, none⟩), .int .u64 130]) (w.alloc (.cells #[.int .i64 c] 35)) := by kernel_rfl
theorem asCode_set (a b : Addr) (c : Int) (old : Value) (W : World) (hb : W.cell? b = some (.int .i64 c)) (ht : W.cell? a = some old) (hf : W.frozen? a = false) :
    (ReflectliteValue.set #[.agg #[.pointer (some ⟨1, 35, none⟩), .pointer (some a), .int .u64 386], .agg #[.pointer (some ⟨1, 35, none⟩), .pointer (some b), .int .u64 130]]).run Tryd.prog W = .ok (.tuple #[]) (W.setCell a (.int .i64 c)) := by
  rw [rls]
  simp only [Sem.run_bind, asCode_partsA, asCode_parts, Result.andThen]
  simp [ReflectliteValue.flagAddr, loadVar, isAgg, underlying, Tryd.underlying35, hb, Result.andThen, asCode_direct, storeVar, Value.cells, storeCells, Addr.add]
  rw [run_store Tryd.prog W a _ _ (by rfl)]
  simp [ht, hf]

theorem asCode_fromCode (w : World) : (ReflectliteType.relation "AssignableTo" ReflectliteType.assignableTo #[.agg #[.pointer (some ⟨1, 35, none⟩)], .iface 104 (.agg #[.pointer (some ⟨1, 35, none⟩)])]).run Tryd.prog w = .ok (.bool true) w := by kernel_rfl
theorem asCode_fromWhere (w : World) : (ReflectliteType.relation "AssignableTo" ReflectliteType.assignableTo #[.agg #[.pointer (some ⟨1, 78, none⟩)], .iface 104 (.agg #[.pointer (some ⟨1, 35, none⟩)])]).run Tryd.prog w = .ok (.bool false) w := by kernel_rfl
theorem asCode_noUnwrap (v : Value) (xT : TypeId) (w : World) : (Instr.typeAssert (.iface 35 v) xT 112 true).run Tryd.prog w = .ok (.tuple #[.nilIface, .bool false]) w := run_typeAssert_lacksB Tryd.underlying112 (by kernel_rfl) (by kernel_rfl) v xT w
theorem asCode_noUnwraps (v : Value) (xT : TypeId) (w : World) : (Instr.typeAssert (.iface 35 v) xT 114 true).run Tryd.prog w = .ok (.tuple #[.nilIface, .bool false]) w := run_typeAssert_lacksB Tryd.underlying114 (by kernel_rfl) (by kernel_rfl) v xT w

theorem asWhere_typeOf (v : Value) (w : World) : (ReflectliteType.typeOf #[.iface 78 v]).run Tryd.prog w = .ok (.iface 104 (.agg #[.pointer (some ⟨1, 78, none⟩)])) w := by kernel_rfl
theorem asWhere_noAs (v : Value) (xT : TypeId) (w : World) : (Instr.typeAssert (.iface 78 v) xT 109 true).run Tryd.prog w = .ok (.tuple #[.nilIface, .bool false]) w := run_typeAssert_lacksB Tryd.underlying109 (by kernel_rfl) (by kernel_rfl) v xT w

/-! ### the target Where -/
theorem asWhere_valueOfP (a : Addr) (w : World) : (ReflectliteValue.unpack (.iface 85 (.pointer (some a)))).run Tryd.prog w = .ok (.agg #[.pointer (some ⟨1, 85, none⟩), .pointer (some ⟨w.heap.size, 0, none⟩), .int .u64 150]) (w.alloc (.cells #[.pointer (some a)] 85)) := by kernel_rfl
theorem asWhere_type (a : Addr) (w : World) : (ReflectliteValue.methodAny (ReflectliteValue.valueError "reflectlite.Value.Type" 0) (fun t _ _ _ => ReflectliteType.toType t) #[.agg #[.pointer (some ⟨1, 85, none⟩), .pointer (some a), .int .u64 150]]).run Tryd.prog w = .ok (.iface 104 (.agg #[.pointer (some ⟨1, 85, none⟩)])) w := by kernel_rfl
theorem asWhere_kindP (w : World) : ((ReflectliteType.abiMethod fun t => (fun a : Nat => Value.int IntKind.u8 (a : Int)) <$> Rtype.kind t) #[.pointer (some ⟨1, 85, none⟩)]).run Tryd.prog w = .ok (.int .u8 22) w := by kernel_rfl
theorem asWhere_kind (w : World) : ((ReflectliteType.abiMethod fun t => (fun a : Nat => Value.int IntKind.u8 (a : Int)) <$> Rtype.kind t) #[.pointer (some ⟨1, 78, none⟩)]).run Tryd.prog w = .ok (.int .u8 22) w := by kernel_rfl
theorem asWhere_partsP (a : Addr) (w : World) : (ReflectliteValue.parts (.agg #[.pointer (some ⟨1, 85, none⟩), .pointer (some a), .int .u64 150])).run Tryd.prog w = .ok (some (85, a, 150)) w := by kernel_rfl
theorem asWhere_isNil (a b : Addr) (W : World) (ha : W.cell? a = some (.pointer (some b))) :
    (ReflectliteValue.method (ReflectliteValue.valueError "reflectlite.Value.IsNil" 0) ReflectliteValue.isNil #[.agg #[.pointer (some ⟨1, 85, none⟩), .pointer (some a), .int .u64 150]]).run Tryd.prog W = .ok (.bool false) W := by
  rw [rlm]
  simp only [Sem.run_bind, asWhere_partsP, Result.andThen]
  simp [ReflectliteValue.isNil, loadVar, isAgg, underlying, Tryd.underlying85, ha, Result.andThen]
theorem asWhere_elem (w : World) : (ReflectliteType.method ReflectliteType.elem #[.agg #[.pointer (some ⟨1, 85, none⟩)]]).run Tryd.prog w = .ok (.iface 104 (.agg #[.pointer (some ⟨1, 78, none⟩)])) w := by kernel_rfl
theorem asWhere_implements (w : World) : (ReflectliteType.relation "Implements" ReflectliteType.implements_ #[.agg #[.pointer (some ⟨1, 78, none⟩)], .iface 104 (.agg #[.pointer (some ⟨1, 27, none⟩)])]).run Tryd.prog w = .ok (.bool true) w := by kernel_rfl
theorem asWhere_elemOfP (w : World) : (Rtype.elem? 85).run Tryd.prog w = .ok (some 78) w := by kernel_rfl
theorem asWhere_mk (b : Addr) (w : World) : (ReflectliteValue.mk 78 b ReflectliteValue.flagAddr).run Tryd.prog w = .ok (.agg #[.pointer (some ⟨1, 78, none⟩), .pointer (some b), .int .u64 406]) w := by kernel_rfl
theorem asWhere_elemV (a b : Addr) (W : World) (ha : W.cell? a = some (.pointer (some b))) :
    (ReflectliteValue.method (ReflectliteValue.valueError "reflectlite.Value.Elem" 0) ReflectliteValue.elem #[.agg #[.pointer (some ⟨1, 85, none⟩), .pointer (some a), .int .u64 150]]).run Tryd.prog W = .ok (.agg #[.pointer (some ⟨1, 78, none⟩), .pointer (some b), .int .u64 406]) W := by
  rw [rlm]
  simp only [Sem.run_bind, asWhere_partsP, Result.andThen]
  simp [ReflectliteValue.elem, loadVar, isAgg, underlying, Tryd.underlying85, ha, Result.andThen, asWhere_elemOfP, asWhere_mk]
theorem asWhere_partsA (a : Addr) (w : World) : (ReflectliteValue.parts (.agg #[.pointer (some ⟨1, 78, none⟩), .pointer (some a), .int .u64 406])).run Tryd.prog w = .ok (some (78, a, 406)) w := by kernel_rfl
theorem asWhere_parts (a : Addr) (w : World) : (ReflectliteValue.parts (.agg #[.pointer (some ⟨1, 78, none⟩), .pointer (some a), .int .u64 150])).run Tryd.prog w = .ok (some (78, a, 150)) w := by kernel_rfl
theorem asWhere_direct (w : World) : (Rtype.directlyAssignable 78 78).run Tryd.prog w = .ok true w := by kernel_rfl
theorem asWhere_valueOf (x : Addr) (w : World) : (ReflectliteValue.unpack (.iface 78 (.pointer (some x)))).run Tryd.prog w = .ok (.agg #[.pointer (some ⟨1, 78, none⟩), .pointer (some ⟨w.heap.size, 0, none⟩), .int .u64 150]) (w.alloc (.cells #[.pointer (some x)] 78)) := by kernel_rfl
theorem asWhere_set (a b : Addr) (x : Addr) (old : Value) (W : World) (hb : W.cell? b = some (.pointer (some x))) (ht : W.cell? a = some old) (hf : W.frozen? a = false) :
    (ReflectliteValue.set #[.agg #[.pointer (some ⟨1, 78, none⟩), .pointer (some a), .int .u64 406], .agg #[.pointer (some ⟨1, 78, none⟩), .pointer (some b), .int .u64 150]]).run Tryd.prog W = .ok (.tuple #[]) (W.setCell a (.pointer (some x))) := by
  rw [rls]
  simp only [Sem.run_bind, asWhere_partsA, asWhere_parts, Result.andThen]
  simp [ReflectliteValue.flagAddr, loadVar, isAgg, underlying, Tryd.underlying78, hb, Result.andThen, asWhere_direct, storeVar, Value.cells, storeCells, Addr.add]
  rw [run_store Tryd.prog W a _ _ (by rfl)]
  simp [ht, hf]

theorem asWhere_fromCode (w : World) : (ReflectliteType.relation "AssignableTo" ReflectliteType.assignableTo #[.agg #[.pointer (some ⟨1, 35, none⟩)], .iface 104 (.agg #[.pointer (some ⟨1, 78, none⟩)])]).run Tryd.prog w = .ok (.bool false) w := by kernel_rfl
theorem asWhere_fromWhere (w : World) : (ReflectliteType.relation "AssignableTo" ReflectliteType.assignableTo #[.agg #[.pointer (some ⟨1, 78, none⟩)], .iface 104 (.agg #[.pointer (some ⟨1, 78, none⟩)])]).run Tryd.prog w = .ok (.bool true) w := by kernel_rfl
theorem asWhere_hasUnwrap (v : Value) (xT : TypeId) (w : World) : (Instr.typeAssert (.iface 78 v) xT 112 true).run Tryd.prog w = .ok (.tuple #[.iface 78 v, .bool true]) w := run_typeAssert_hasB Tryd.underlying112 (by kernel_rfl) v xT w
theorem asWhere_unwrapM (v : Value) (w : World) : (Go.method 248 78 v "Unwrap").run Tryd.prog w = .ok (75, v) w := by kernel_rfl
end Go.Proofs.YtklkiofhenhafaaDoor
namespace Go.Proofs.YtklkiofhenhafaaDoor
open Go.RowKit Go.Proofs.YtklkiofhenhafaaDoorW.PrintWords Go.Extern.Stop Go.Stop Go.Extern

/-- The code that an error has within; its outermost place. -/
def codeIn : Err → Option Int
  | .code c => some c
  | .at_ _ e => codeIn e
  | .fld _ e => codeIn e
  | _ => none
def placeIn : Err → Option Int
  | .at_ n _ => some n
  | .fld _ e => placeIn e
  | _ => none
def codeOf : Err → Int
  | .nil => 0
  | e => (codeIn e).getD 14
def deep : Err → Nat
  | .at_ _ e => deep e + 1
  | .fld _ e => deep e + 1
  | _ => 0
/-- The variable errors.errorType as it is laid. -/
def Laid (w : World) : Prop := w.cell? ⟨0, 0, none⟩ = some (.iface 104 (.agg #[.pointer (some ⟨1, 27, none⟩)]))
theorem cell_lt {w : World} {a : Addr} {v : Value} (h : w.cell? a = some v) : a.block < w.heap.size := by
  rcases Nat.lt_or_ge a.block w.heap.size with hl | hl
  · exact hl
  · simp [World.cell?, Array.getElem?_eq_none hl] at h
theorem Laid.below {w w' : World} (h : Laid w) (hb : Below w.heap.size w w') : Laid w' := by
  unfold Laid at *
  rw [hb.cell (cell_lt h)]; exact h
theorem unwrapW_any (a : Nat) (n : Int) (u : Value) (w : World) (h : w.heap[a]? = some (.cells #[.int .i64 n, u] 80 (0, 0))) :
    Calls Tryd.prog 75 #[.pointer (some ⟨a, 0, none⟩)] w fun e w' => e = .returned u ∧ w' = w := by
  have c1 : w.cell? ⟨a, 1, none⟩ = some u := by rw [blk_cell h]; rfl
  clear h
  go_enter Tryd.func75, Tryd.ntmps75
  go_wp2
  go_ret
  exact ⟨rfl, rfl⟩

/-! ### the target Code -/
def AsCode (e0 : Err) (t : Addr) (_w0 w : World) (e : Ending) (w' : World) : Prop :=
  (codeIn e0 = none ∧ e = .returned (.bool false) ∧ Below w.heap.size w w') ∨ (∃ c, codeIn e0 = some c ∧ e = .returned (.bool true) ∧ w'.cell? t = some (.int .i64 c) ∧ w'.frozen? t = false ∧ Kp (· = t.block) w w')
/-- What the setting of the target leaves. -/
theorem asCode_done (t b : Addr) (old x : Value) (y : Value) (w : World) (ht0 : w.cell? t = some old) (hf0 : w.frozen? t = false) (_hx : x.oneCell' = true) :
    ((((w.alloc (.cells #[.pointer (some ⟨1, 73, none⟩), .pointer (some b), .int .u64 150] 89)).alloc (.cells #[y] 35)).setCell t x).cell? t = some x) ∧ ((((w.alloc (.cells #[.pointer (some ⟨1, 73, none⟩), .pointer (some b), .int .u64 150] 89)).alloc (.cells #[y] 35)).setCell t x).frozen? t = false) ∧ Kp (· = t.block) w (((w.alloc (.cells #[.pointer (some ⟨1, 73, none⟩), .pointer (some b), .int .u64 150] 89)).alloc (.cells #[y] 35)).setCell t x) := by
  have hl := cell_lt ht0
  have h1 : ((w.alloc (.cells #[.pointer (some ⟨1, 73, none⟩), .pointer (some b), .int .u64 150] 89)).alloc (.cells #[y] 35)).cell? t = some old := by
    rw [World.cell?_alloc_lt _ _ t (by simp; omega), World.cell?_alloc_lt _ _ t hl]; exact ht0
  have h2 : ((w.alloc (.cells #[.pointer (some ⟨1, 73, none⟩), .pointer (some b), .int .u64 150] 89)).alloc (.cells #[y] 35)).frozen? t = false := by
    rw [World.frozen?_alloc_old _ _ t (by simp; omega), World.frozen?_alloc_old _ _ t (Nat.ne_of_lt hl)]; exact hf0
  exact ⟨by exact World.cell?_setCell_same _ _ _ h1, by rw [World.frozen?_setCell]; exact h2, Kp.set (M := fun k => k = t.block) (((Kp.refl _ w).alloc _).alloc _) (show t.block = t.block from rfl) x⟩

set_option maxHeartbeats 4000000 in
theorem asCode_any (e0 : Err) (u : Value) (t b : Addr) (old : Value) (w0 w : World) (h0 : Below w0.heap.size w0 w) (hu : IsE w0 e0 u) (hne : e0 ≠ .nil) (ht0 : w.cell? t = some old) (hf0 : w.frozen? t = false) (hb : w.cell? b = some (.pointer (some t))) :
    Calls Tryd.prog 47 #[u, .iface 73 (.pointer (some t)), .agg #[.pointer (some ⟨1, 73, none⟩), .pointer (some b), .int .u64 150], .iface 104 (.agg #[.pointer (some ⟨1, 35, none⟩)])] w (AsCode e0 t w0 w) := by
  obtain ⟨uT, ux, rfl⟩ := hu.iface hne
  have HU := Aside0.mk hu
  have HT := Aside0.mk (And.intro ht0 (And.intro hf0 hb))
  have HN := Aside0.mk hne
  have H0 := Aside0.mk h0
  clear hu ht0 hf0 hb hne h0
  have hT := @run_callFunc_extern Tryd.prog 52 _ (ReflectliteType.typeOf) Tryd.func52 (by kernel_rfl) (by kernel_rfl) (by kernel_rfl) (by kernel_rfl)
  have hA := @run_callFunc_extern Tryd.prog 80 _ (ReflectliteType.relation "AssignableTo" ReflectliteType.assignableTo) Tryd.func80 (by kernel_rfl) (by kernel_rfl) (by kernel_rfl) (by kernel_rfl)
  have hE := @run_callFunc_extern Tryd.prog 53 _ (ReflectliteValue.method (ReflectliteValue.valueError "reflectlite.Value.Elem" 0) ReflectliteValue.elem) Tryd.func53 (by kernel_rfl) (by kernel_rfl) (by kernel_rfl) (by kernel_rfl)
  have hV := @run_callFunc_extern Tryd.prog 44 _ (fun args => ReflectliteValue.unpack (args.getD 0 (.tuple #[]))) Tryd.func44 (by kernel_rfl) (by kernel_rfl) (by kernel_rfl) (by kernel_rfl)
  have hS := @run_callFunc_extern Tryd.prog 54 _ (ReflectliteValue.set) Tryd.func54 (by kernel_rfl) (by kernel_rfl) (by kernel_rfl) (by kernel_rfl)
  have mA := asMethod_AssignableTo
  go_enter Tryd.func47, Tryd.ntmps47
  go_wp2_with fail
  go_loopg [0] (deep e0) (fun k v wr => wr = w.alloc (.cells #[.pointer (some ⟨1, 73, none⟩), .pointer (some b), .int .u64 150] 89) ∧ ∃ e1 : Err, e1 ≠ .nil ∧ deep e1 ≤ k ∧ Aside0 (codeIn e1 = codeIn e0) ∧ Aside0 (IsE w0 e1 v))
  case atStart => exact ⟨rfl, e0, HN.out, Nat.le_refl _, ⟨rfl⟩, HU⟩
  case round =>
    clear HU HN
    obtain ⟨rfl, e1, hn1, hk, HF, HU⟩ := hrel
    cases e1 with
    | nil => exact absurd rfl hn1
    | oth => exact HU.out.elim
    | fld n e1 => exact HU.out.elim
    | code c =>
      clear hn1 hk
      obtain rfl := HU.out
      clear HU
      have el := asCode_elemV b t (w.alloc (.cells #[.pointer (some ⟨1, 73, none⟩), .pointer (some b), .int .u64 150] 89)) (by rw [World.cell?_alloc_lt _ _ b (cell_lt HT.out.2.2)]; exact HT.out.2.2)
      have st := asCode_set t ⟨w.heap.size + 1, 0, none⟩ (c) old ((w.alloc (.cells #[.pointer (some ⟨1, 73, none⟩), .pointer (some b), .int .u64 150] 89)).alloc (.cells #[.int .i64 c] 35))
        (by rw [World.cell?_alloc_at _ _ _ _ (by simp)]; rfl)
        (by rw [World.cell?_alloc_lt _ _ t (by have := cell_lt HT.out.1; simp; omega), World.cell?_alloc_lt _ _ t (cell_lt HT.out.1)]; exact HT.out.1)
        (by rw [World.frozen?_alloc_old _ _ t (by have := cell_lt HT.out.1; simp; omega), World.frozen?_alloc_old _ _ t (Nat.ne_of_lt (cell_lt HT.out.1))]; exact HT.out.2.1)
      have aX := asCode_fromCode
      have vO := asCode_valueOf
      have tO := asCode_typeOf
      go_wp2
      go_ret
      obtain ⟨r1, r2, r3⟩ := asCode_done t b old (.int .i64 c) (.int .i64 c) w HT.out.1 HT.out.2.1 rfl
      exact .inr ⟨c, by rw [← HF.out]; rfl, rfl, r1, r2, r3⟩
    | at_ m e' =>
      clear hn1
      obtain ⟨a, u, rfl, ha, hu⟩ := HU.out
      have HA := Aside0.mk ha
      clear HU ha
      have aX := asCode_fromWhere
      have tO := asWhere_typeOf
      have q1 := asWhere_noAs
      have q2 := asWhere_hasUnwrap
      have q3 := asWhere_unwrapM
      have HU2 := Aside0.mk (hu.below (w' := w0) (Below.refl _ _))
      clear hu
      by_cases he : e' = .nil
      · subst he
        obtain rfl : u = .nilIface := HU2.out
        go_wp2_with (go_at_call 75; refine (unwrapW_any a m _ _ (blk_below (blk_below HA.out H0.out) ((Below.refl _ _).alloc (Nat.le_refl _) _))).mono ?_; rintro e w' ⟨rfl, rfl⟩)
        go_ret
        exact .inl ⟨by rw [← HF.out]; rfl, rfl, (Below.refl _ _).alloc (Nat.le_refl _) _⟩
      · obtain ⟨vT, vx, rfl⟩ := HU2.out.iface he
        have HN := Aside0.mk he
        clear he
        go_wp2_with (go_at_call 75; refine (unwrapW_any a m _ _ (blk_below (blk_below HA.out H0.out) ((Below.refl _ _).alloc (Nat.le_refl _) _))).mono ?_; rintro e w' ⟨rfl, rfl⟩)
        go_roundg (deep e')
        case rel => exact ⟨rfl, e', HN.out, Nat.le_refl _, HF, HU2⟩
        case measure => simp [deep] at hk; omega

/-! ### the target Where -/
def AsWhere (e0 : Err) (t : Addr) (w0 w : World) (e : Ending) (w' : World) : Prop :=
  (placeIn e0 = none ∧ e = .returned (.bool false) ∧ Below w.heap.size w w') ∨ (∃ n a u, placeIn e0 = some n ∧ e = .returned (.bool true) ∧ w0.heap[a]? = some (.cells #[.int .i64 n, u] 80 (0, 0)) ∧ w'.cell? t = some (.pointer (some ⟨a, 0, none⟩)) ∧ w'.frozen? t = false ∧ Kp (· = t.block) w w')
/-- What the setting of the target leaves. -/
theorem asWhere_done (t b : Addr) (old x : Value) (y : Value) (w : World) (ht0 : w.cell? t = some old) (hf0 : w.frozen? t = false) (_hx : x.oneCell' = true) :
    ((((w.alloc (.cells #[.pointer (some ⟨1, 85, none⟩), .pointer (some b), .int .u64 150] 89)).alloc (.cells #[y] 78)).setCell t x).cell? t = some x) ∧ ((((w.alloc (.cells #[.pointer (some ⟨1, 85, none⟩), .pointer (some b), .int .u64 150] 89)).alloc (.cells #[y] 78)).setCell t x).frozen? t = false) ∧ Kp (· = t.block) w (((w.alloc (.cells #[.pointer (some ⟨1, 85, none⟩), .pointer (some b), .int .u64 150] 89)).alloc (.cells #[y] 78)).setCell t x) := by
  have hl := cell_lt ht0
  have h1 : ((w.alloc (.cells #[.pointer (some ⟨1, 85, none⟩), .pointer (some b), .int .u64 150] 89)).alloc (.cells #[y] 78)).cell? t = some old := by
    rw [World.cell?_alloc_lt _ _ t (by simp; omega), World.cell?_alloc_lt _ _ t hl]; exact ht0
  have h2 : ((w.alloc (.cells #[.pointer (some ⟨1, 85, none⟩), .pointer (some b), .int .u64 150] 89)).alloc (.cells #[y] 78)).frozen? t = false := by
    rw [World.frozen?_alloc_old _ _ t (by simp; omega), World.frozen?_alloc_old _ _ t (Nat.ne_of_lt hl)]; exact hf0
  exact ⟨by exact World.cell?_setCell_same _ _ _ h1, by rw [World.frozen?_setCell]; exact h2, Kp.set (M := fun k => k = t.block) (((Kp.refl _ w).alloc _).alloc _) (show t.block = t.block from rfl) x⟩

set_option maxHeartbeats 4000000 in
theorem asWhere_any (e0 : Err) (u : Value) (t b : Addr) (old : Value) (w0 w : World) (h0 : Below w0.heap.size w0 w) (hu : IsE w0 e0 u) (hne : e0 ≠ .nil) (ht0 : w.cell? t = some old) (hf0 : w.frozen? t = false) (hb : w.cell? b = some (.pointer (some t))) :
    Calls Tryd.prog 47 #[u, .iface 85 (.pointer (some t)), .agg #[.pointer (some ⟨1, 85, none⟩), .pointer (some b), .int .u64 150], .iface 104 (.agg #[.pointer (some ⟨1, 78, none⟩)])] w (AsWhere e0 t w0 w) := by
  obtain ⟨uT, ux, rfl⟩ := hu.iface hne
  have HU := Aside0.mk hu
  have HT := Aside0.mk (And.intro ht0 (And.intro hf0 hb))
  have HN := Aside0.mk hne
  have H0 := Aside0.mk h0
  clear hu ht0 hf0 hb hne h0
  have hT := @run_callFunc_extern Tryd.prog 52 _ (ReflectliteType.typeOf) Tryd.func52 (by kernel_rfl) (by kernel_rfl) (by kernel_rfl) (by kernel_rfl)
  have hA := @run_callFunc_extern Tryd.prog 80 _ (ReflectliteType.relation "AssignableTo" ReflectliteType.assignableTo) Tryd.func80 (by kernel_rfl) (by kernel_rfl) (by kernel_rfl) (by kernel_rfl)
  have hE := @run_callFunc_extern Tryd.prog 53 _ (ReflectliteValue.method (ReflectliteValue.valueError "reflectlite.Value.Elem" 0) ReflectliteValue.elem) Tryd.func53 (by kernel_rfl) (by kernel_rfl) (by kernel_rfl) (by kernel_rfl)
  have hV := @run_callFunc_extern Tryd.prog 44 _ (fun args => ReflectliteValue.unpack (args.getD 0 (.tuple #[]))) Tryd.func44 (by kernel_rfl) (by kernel_rfl) (by kernel_rfl) (by kernel_rfl)
  have hS := @run_callFunc_extern Tryd.prog 54 _ (ReflectliteValue.set) Tryd.func54 (by kernel_rfl) (by kernel_rfl) (by kernel_rfl) (by kernel_rfl)
  have mA := asMethod_AssignableTo
  go_enter Tryd.func47, Tryd.ntmps47
  go_wp2_with fail
  go_loopg [0] (deep e0) (fun k v wr => wr = w.alloc (.cells #[.pointer (some ⟨1, 85, none⟩), .pointer (some b), .int .u64 150] 89) ∧ ∃ e1 : Err, e1 ≠ .nil ∧ deep e1 ≤ k ∧ Aside0 (placeIn e1 = placeIn e0) ∧ Aside0 (IsE w0 e1 v))
  case atStart => exact ⟨rfl, e0, HN.out, Nat.le_refl _, ⟨rfl⟩, HU⟩
  case round =>
    clear HU HN
    obtain ⟨rfl, e1, hn1, hk, HF, HU⟩ := hrel
    cases e1 with
    | nil => exact absurd rfl hn1
    | oth => exact HU.out.elim
    | fld n e1 => exact HU.out.elim
    | code c =>
      clear hn1 hk
      obtain rfl := HU.out
      clear HU
      have aX := asWhere_fromCode
      have tO := asCode_typeOf
      have q1 := asCode_noAs
      have q2 := asCode_noUnwrap
      have q3 := asCode_noUnwraps
      go_wp2
      go_ret
      exact .inl ⟨by rw [← HF.out]; rfl, rfl, (Below.refl _ _).alloc (Nat.le_refl _) _⟩
    | at_ m e' =>
      clear hn1
      obtain ⟨a, u, rfl, ha, hu⟩ := HU.out
      have HA := Aside0.mk ha
      clear HU ha
      clear hu
      have el := asWhere_elemV b t (w.alloc (.cells #[.pointer (some ⟨1, 85, none⟩), .pointer (some b), .int .u64 150] 89)) (by rw [World.cell?_alloc_lt _ _ b (cell_lt HT.out.2.2)]; exact HT.out.2.2)
      have st := asWhere_set t ⟨w.heap.size + 1, 0, none⟩ (⟨a, 0, none⟩) old ((w.alloc (.cells #[.pointer (some ⟨1, 85, none⟩), .pointer (some b), .int .u64 150] 89)).alloc (.cells #[.pointer (some ⟨a, 0, none⟩)] 78))
        (by rw [World.cell?_alloc_at _ _ _ _ (by simp)]; rfl)
        (by rw [World.cell?_alloc_lt _ _ t (by have := cell_lt HT.out.1; simp; omega), World.cell?_alloc_lt _ _ t (cell_lt HT.out.1)]; exact HT.out.1)
        (by rw [World.frozen?_alloc_old _ _ t (by have := cell_lt HT.out.1; simp; omega), World.frozen?_alloc_old _ _ t (Nat.ne_of_lt (cell_lt HT.out.1))]; exact HT.out.2.1)
      have aX := asWhere_fromWhere
      have vO := asWhere_valueOf
      have tO := asWhere_typeOf
      go_wp2
      go_ret
      obtain ⟨r1, r2, r3⟩ := asWhere_done t b old (.pointer (some ⟨a, 0, none⟩)) (.pointer (some ⟨a, 0, none⟩)) w HT.out.1 HT.out.2.1 rfl
      exact .inr ⟨m, a, u, by rw [← HF.out]; rfl, rfl, HA.out, r1, r2, r3⟩
set_option maxHeartbeats 4000000 in
theorem errCode_any (e0 : Err) (u : Value) (t : Addr) (old : Value) (w0 w : World) (h0 : Below w0.heap.size w0 w) (hg : Laid w) (hu : IsE w0 e0 u) (hne : e0 ≠ .nil) (ht0 : w.cell? t = some old) (hf0 : w.frozen? t = false) :
    Calls Tryd.prog 34 #[u, .iface 73 (.pointer (some t))] w (AsCode e0 t w0 w) := by
  have hlt := cell_lt ht0
  have hW : Below w.heap.size w ((w.alloc (.cells #[.pointer (some t)] 73)).alloc (.cells #[.pointer (some ⟨1, 73, none⟩), .pointer (some ⟨w.heap.size, 0, none⟩), .int .u64 150] 89)) := ((Below.refl _ _).alloc (Nat.le_refl _) _).alloc (by simp) _
  have hg2 := hg.below hW
  unfold Laid at hg2
  have ht2 : ((w.alloc (.cells #[.pointer (some t)] 73)).alloc (.cells #[.pointer (some ⟨1, 73, none⟩), .pointer (some ⟨w.heap.size, 0, none⟩), .int .u64 150] 89)).cell? t = some old := by rw [hW.cell hlt]; exact ht0
  have hf2 : ((w.alloc (.cells #[.pointer (some t)] 73)).alloc (.cells #[.pointer (some ⟨1, 73, none⟩), .pointer (some ⟨w.heap.size, 0, none⟩), .int .u64 150] 89)).frozen? t = false := by rw [hW.frozen hlt]; exact hf0
  have hc2 : ((w.alloc (.cells #[.pointer (some t)] 73)).alloc (.cells #[.pointer (some ⟨1, 73, none⟩), .pointer (some ⟨w.heap.size, 0, none⟩), .int .u64 150] 89)).cell? ⟨w.heap.size, 0, none⟩ = some (.pointer (some t)) := by simp
  have HC := asCode_any e0 u t ⟨w.heap.size, 0, none⟩ old w0 ((w.alloc (.cells #[.pointer (some t)] 73)).alloc (.cells #[.pointer (some ⟨1, 73, none⟩), .pointer (some ⟨w.heap.size, 0, none⟩), .int .u64 150] 89)) (h0.trans (hW.mono h0.size)) hu hne ht2 hf2 hc2
  obtain ⟨uT, ux, rfl⟩ := hu.iface hne
  have HW := Aside0.mk hW
  have n8 := asCode_isNil ⟨w.heap.size, 0, none⟩ t ((w.alloc (.cells #[.pointer (some t)] 73)).alloc (.cells #[.pointer (some ⟨1, 73, none⟩), .pointer (some ⟨w.heap.size, 0, none⟩), .int .u64 150] 89)) hc2
  clear h0 hg hu hne ht0 hf0 hlt hW ht2 hf2 hc2
  have hV := @run_callFunc_extern Tryd.prog 44 _ (fun args => ReflectliteValue.unpack (args.getD 0 (.tuple #[]))) Tryd.func44 (by kernel_rfl) (by kernel_rfl) (by kernel_rfl) (by kernel_rfl)
  have hTy := @run_callFunc_extern Tryd.prog 45 _ (ReflectliteValue.methodAny (ReflectliteValue.valueError "reflectlite.Value.Type" 0) (fun t _ _ _ => ReflectliteType.toType t)) Tryd.func45 (by kernel_rfl) (by kernel_rfl) (by kernel_rfl) (by kernel_rfl)
  have hN := @run_callFunc_extern Tryd.prog 46 _ (ReflectliteValue.method (ReflectliteValue.valueError "reflectlite.Value.IsNil" 0) ReflectliteValue.isNil) Tryd.func46 (by kernel_rfl) (by kernel_rfl) (by kernel_rfl) (by kernel_rfl)
  have hK := @run_callFunc_extern Tryd.prog 70 _ (ReflectliteType.abiMethod fun t => do pure (.int .u8 (← Rtype.kind t))) Tryd.func70 (by kernel_rfl) (by kernel_rfl) (by kernel_rfl) (by kernel_rfl)
  have hEl := @run_callFunc_extern Tryd.prog 82 _ (ReflectliteType.method ReflectliteType.elem) Tryd.func82 (by kernel_rfl) (by kernel_rfl) (by kernel_rfl) (by kernel_rfl)
  have hI := @run_callFunc_extern Tryd.prog 83 _ (ReflectliteType.relation "Implements" ReflectliteType.implements_) Tryd.func83 (by kernel_rfl) (by kernel_rfl) (by kernel_rfl) (by kernel_rfl)
  have f6 := asCode_valueOfP
  have f7 := asCode_type
  have mK := asMethod_Kind
  have mE := asMethod_Elem
  have mI := asMethod_Implements
  have kP := asCode_kindP
  have kD := asCode_kind
  have eD := asCode_elem
  have iD := asCode_implements
  go_enter Tryd.func34, Tryd.ntmps34
  go_wp2_with (go_at_call 47; refine HC.mono ?_; rintro e w' (⟨h1, rfl, h3⟩ | ⟨c, h1, rfl, h3, h4, h5⟩))
  · go_ret
    exact .inl ⟨h1, rfl, HW.out.trans (h3.mono HW.out.size)⟩
  · go_ret
    exact .inr ⟨c, h1, rfl, h3, h4, (Kp.ofBelow HW.out).trans h5⟩
set_option maxHeartbeats 4000000 in
theorem errWhere_any (e0 : Err) (u : Value) (t : Addr) (old : Value) (w0 w : World) (h0 : Below w0.heap.size w0 w) (hg : Laid w) (hu : IsE w0 e0 u) (hne : e0 ≠ .nil) (ht0 : w.cell? t = some old) (hf0 : w.frozen? t = false) :
    Calls Tryd.prog 34 #[u, .iface 85 (.pointer (some t))] w (AsWhere e0 t w0 w) := by
  have hlt := cell_lt ht0
  have hW : Below w.heap.size w ((w.alloc (.cells #[.pointer (some t)] 85)).alloc (.cells #[.pointer (some ⟨1, 85, none⟩), .pointer (some ⟨w.heap.size, 0, none⟩), .int .u64 150] 89)) := ((Below.refl _ _).alloc (Nat.le_refl _) _).alloc (by simp) _
  have hg2 := hg.below hW
  unfold Laid at hg2
  have ht2 : ((w.alloc (.cells #[.pointer (some t)] 85)).alloc (.cells #[.pointer (some ⟨1, 85, none⟩), .pointer (some ⟨w.heap.size, 0, none⟩), .int .u64 150] 89)).cell? t = some old := by rw [hW.cell hlt]; exact ht0
  have hf2 : ((w.alloc (.cells #[.pointer (some t)] 85)).alloc (.cells #[.pointer (some ⟨1, 85, none⟩), .pointer (some ⟨w.heap.size, 0, none⟩), .int .u64 150] 89)).frozen? t = false := by rw [hW.frozen hlt]; exact hf0
  have hc2 : ((w.alloc (.cells #[.pointer (some t)] 85)).alloc (.cells #[.pointer (some ⟨1, 85, none⟩), .pointer (some ⟨w.heap.size, 0, none⟩), .int .u64 150] 89)).cell? ⟨w.heap.size, 0, none⟩ = some (.pointer (some t)) := by simp
  have HC := asWhere_any e0 u t ⟨w.heap.size, 0, none⟩ old w0 ((w.alloc (.cells #[.pointer (some t)] 85)).alloc (.cells #[.pointer (some ⟨1, 85, none⟩), .pointer (some ⟨w.heap.size, 0, none⟩), .int .u64 150] 89)) (h0.trans (hW.mono h0.size)) hu hne ht2 hf2 hc2
  obtain ⟨uT, ux, rfl⟩ := hu.iface hne
  have HW := Aside0.mk hW
  have n8 := asWhere_isNil ⟨w.heap.size, 0, none⟩ t ((w.alloc (.cells #[.pointer (some t)] 85)).alloc (.cells #[.pointer (some ⟨1, 85, none⟩), .pointer (some ⟨w.heap.size, 0, none⟩), .int .u64 150] 89)) hc2
  clear h0 hg hu hne ht0 hf0 hlt hW ht2 hf2 hc2
  have hV := @run_callFunc_extern Tryd.prog 44 _ (fun args => ReflectliteValue.unpack (args.getD 0 (.tuple #[]))) Tryd.func44 (by kernel_rfl) (by kernel_rfl) (by kernel_rfl) (by kernel_rfl)
  have hTy := @run_callFunc_extern Tryd.prog 45 _ (ReflectliteValue.methodAny (ReflectliteValue.valueError "reflectlite.Value.Type" 0) (fun t _ _ _ => ReflectliteType.toType t)) Tryd.func45 (by kernel_rfl) (by kernel_rfl) (by kernel_rfl) (by kernel_rfl)
  have hN := @run_callFunc_extern Tryd.prog 46 _ (ReflectliteValue.method (ReflectliteValue.valueError "reflectlite.Value.IsNil" 0) ReflectliteValue.isNil) Tryd.func46 (by kernel_rfl) (by kernel_rfl) (by kernel_rfl) (by kernel_rfl)
  have hK := @run_callFunc_extern Tryd.prog 70 _ (ReflectliteType.abiMethod fun t => do pure (.int .u8 (← Rtype.kind t))) Tryd.func70 (by kernel_rfl) (by kernel_rfl) (by kernel_rfl) (by kernel_rfl)
  have hEl := @run_callFunc_extern Tryd.prog 82 _ (ReflectliteType.method ReflectliteType.elem) Tryd.func82 (by kernel_rfl) (by kernel_rfl) (by kernel_rfl) (by kernel_rfl)
  have hI := @run_callFunc_extern Tryd.prog 83 _ (ReflectliteType.relation "Implements" ReflectliteType.implements_) Tryd.func83 (by kernel_rfl) (by kernel_rfl) (by kernel_rfl) (by kernel_rfl)
  have f6 := asWhere_valueOfP
  have f7 := asWhere_type
  have mK := asMethod_Kind
  have mE := asMethod_Elem
  have mI := asMethod_Implements
  have kP := asWhere_kindP
  have kD := asWhere_kind
  have eD := asWhere_elem
  have iD := asWhere_implements
  go_enter Tryd.func34, Tryd.ntmps34
  go_wp2_with (go_at_call 47; refine HC.mono ?_; rintro e w' (⟨h1, rfl, h3⟩ | ⟨m, a, u', h1, rfl, h2, h3, h4, h5⟩))
  · go_ret
    exact .inl ⟨h1, rfl, HW.out.trans (h3.mono HW.out.size)⟩
  · go_ret
    exact .inr ⟨m, a, u', h1, rfl, h2, h3, h4, (Kp.ofBelow HW.out).trans h5⟩
/-! ### blame.Code, blame.Place -/
theorem errAs_nil (v : Value) (w : World) : Calls Tryd.prog 34 #[.nilIface, v] w fun e w' => e = .returned (.bool false) ∧ w' = w := by
  go_enter Tryd.func34, Tryd.ntmps34
  go_wp2
  go_ret
  exact ⟨rfl, rfl⟩
set_option maxHeartbeats 1000000 in
theorem code_any (e0 : Err) (u : Value) (w : World) (hg : Laid w) (hu : IsE w e0 u) :
    Calls Tryd.prog 11 #[u] w fun e w' => e = .returned (.int .i64 (codeOf e0)) ∧ Below w.heap.size w w' := by
  by_cases hne : e0 = .nil
  · subst hne
    obtain rfl : u = .nilIface := hu
    go_enter Tryd.func11, Tryd.ntmps11
    go_wp2_with fail
    go_ret
    exact ⟨rfl, Below.refl _ _⟩
  · have hW : Below w.heap.size w (w.alloc (.cells #[.int .i64 0] 35)) := (Below.refl _ _).alloc (Nat.le_refl _) _
    have HC := errCode_any e0 u ⟨w.heap.size, 0, none⟩ (.int .i64 0) w (w.alloc (.cells #[.int .i64 0] 35)) hW (hg.below hW) hu hne (by simp) (by simp)
    obtain ⟨uT, ux, rfl⟩ := hu.iface hne
    have HW := Aside0.mk hW
    have HE : Aside0 (codeOf e0 = (codeIn e0).getD 14) := ⟨by cases e0 <;> first | rfl | exact absurd rfl hne⟩
    clear hW hg hu hne
    go_enter Tryd.func11, Tryd.ntmps11
    go_wp2_with (go_at_call 34; refine HC.mono ?_; rintro e w' (⟨h1, rfl, h3⟩ | ⟨c, h1, rfl, h3, h4, h5⟩))
    · have H3 := Aside0.mk h3
      have H1 := Aside0.mk h1
      clear h3 h1
      go_wp2_with fail
      go_ret
      exact ⟨by rw [HE.out, H1.out]; rfl, HW.out.trans (H3.out.mono HW.out.size)⟩
    · have H1 := Aside0.mk h1
      have H5 := Aside0.mk h5
      clear h5 h1
      go_wp2_with fail
      go_ret
      exact ⟨by rw [HE.out, H1.out]; rfl, HW.out.trans (H5.out.toBelow HW.out.size (fun k hk => by subst hk; exact Nat.le_refl _))⟩
/-- What Place tells. -/
def placeN (e : Err) : Int := (placeIn e).getD 0
def placeB (e : Err) : Bool := (placeIn e).isSome
set_option maxHeartbeats 1000000 in
theorem place_any (e0 : Err) (u : Value) (w : World) (hg : Laid w) (hu : IsE w e0 u) :
    Calls Tryd.prog 33 #[u] w fun e w' => e = .returned (.tuple #[.int .i64 (placeN e0), .bool (placeB e0)]) ∧ Below w.heap.size w w' := by
  by_cases hne : e0 = .nil
  · subst hne
    obtain rfl : u = .nilIface := hu
    go_enter Tryd.func33, Tryd.ntmps33
    go_wp2_with (go_at_call 34; refine (errAs_nil _ _).mono ?_; rintro e w' ⟨rfl, rfl⟩)
    go_ret2
    exact ⟨rfl, (Below.refl _ _).alloc (Nat.le_refl _) _⟩
  · have hW : Below w.heap.size w (w.alloc (.cells #[.pointer none] 78)) := (Below.refl _ _).alloc (Nat.le_refl _) _
    have HC := errWhere_any e0 u ⟨w.heap.size, 0, none⟩ (.pointer none) w (w.alloc (.cells #[.pointer none] 78)) hW (hg.below hW) hu hne (by simp) (by simp)
    obtain ⟨uT, ux, rfl⟩ := hu.iface hne
    have HD : Calls Tryd.prog 34 #[.iface uT ux, .iface 85 (.pointer (some ⟨w.heap.size, 0, none⟩))] (w.alloc (.cells #[.pointer none] 78)) (fun e w' =>
        (placeIn e0 = none ∧ e = .returned (.bool false) ∧ Below w.heap.size w w') ∨ (∃ m a, placeIn e0 = some m ∧ e = .returned (.bool true) ∧ w'.cell? ⟨w.heap.size, 0, none⟩ = some (.pointer (some ⟨a, 0, none⟩)) ∧ w'.cell? ⟨a, 0, none⟩ = some (.int .i64 m) ∧ Below w.heap.size w w')) := by
      refine HC.mono ?_
      rintro e w' (⟨h1, h2, h3⟩ | ⟨m, a, u', h1, h2, h3, h4, h5, h6⟩)
      · exact .inl ⟨h1, h2, hW.trans (h3.mono hW.size)⟩
      · have hB := hW.trans (h6.toBelow hW.size (fun k hk => by subst hk; exact Nat.le_refl _))
        exact .inr ⟨m, a, h1, h2, h4, by rw [blk_cell (blk_below h3 hB)]; rfl, hB⟩
    clear HC hW hg hu hne
    go_enter Tryd.func33, Tryd.ntmps33
    go_wp2_with (go_at_call 34; refine HD.mono ?_; rintro e w' (⟨h1, rfl, h3⟩ | ⟨m, a, h1, rfl, h2, h3, h4⟩))
    · go_ret2
      exact ⟨by unfold placeN placeB; rw [h1]; rfl, h3⟩
    · go_ret2
      exact ⟨by unfold placeN placeB; rw [h1]; rfl, h4⟩
end Go.Proofs.YtklkiofhenhafaaDoor
namespace Go.Proofs.YtklkiofhenhafaaDoor
open Go.RowKit

theorem seat_et : Tryd.prog.globalNamed "errors.errorType" = some 0 := by kernel_rfl
theorem seat_rt : (Tryd.prog.cutTypes.find? (·.1 == "internal/reflectlite.rtype")).map (·.2) = some 104 := by kernel_rfl
theorem seat_oneRow : ((List.range 148).filter fun t => Tryd.prog.rowNamed t [101, 114, 114, 111, 114]) = [27] := by kernel_rfl
theorem seat_size : Tryd.prog.types.size = 148 := by kernel_rfl
/-- What the condition gives a walk: the variable's one cell. -/
theorem laid_of {W : World} (h : laidMetH Tryd.prog [("errors.errorType", Rows.laid_errors_errorType)] W) : Laid W := by
  have h' : laidMet Tryd.prog [] W ∧ handlesMet Tryd.prog [("errors.errorType", Rows.laid_errors_errorType)] W := h
  obtain ⟨name, u, ty, e1, e2, e3, e4, e5⟩ := h'.2 _ (List.mem_singleton.2 rfl)
  have en : name = [101, 114, 114, 111, 114] := (Option.some.inj e1).symm
  subst en
  obtain rfl := Option.some.inj (seat_rt.symm.trans e2)
  have hm : ty ∈ (List.range 148).filter fun t => Tryd.prog.rowNamed t [101, 114, 114, 111, 114] := List.mem_filter.2 ⟨List.mem_range.2 (by rw [← seat_size]; exact e3), e4⟩
  rw [seat_oneRow] at hm
  obtain rfl := List.mem_singleton.1 hm
  have hh : typeHandle Tryd.prog 27 = .pointer (some ⟨1, 27, none⟩) := by kernel_rfl
  rw [hh] at e5
  unfold Laid
  simpa using World.var?_cell seat_et e5 0
/-- A world that meets the condition. -/
noncomputable def laidWorld (os : Os) : World :=
  let w0 := World.holding Tryd.prog os ⟨#[], #[], []⟩
  { w0 with heap := w0.heap.modify 0 fun
      | .cells _ t frozen => .cells #[.iface 104 (.agg #[.pointer (some ⟨1, 27, none⟩)])] t frozen
      | o => o }
theorem laidWorld_met (os : Os) (args : Array Value) : laidMetH Tryd.prog [("errors.errorType", Rows.laid_errors_errorType)] ((laidWorld os).forCall (fun _ _ => 0) ⟨#[], args, []⟩).memory :=
  laidMetH_of_parts (laidMet_nil _ _) (by kernel_rfl)
end Go.Proofs.YtklkiofhenhafaaDoor
