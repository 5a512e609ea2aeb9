/-
  errors.As and errors.as at the two targets that this seat's laws use, as contracts: the closed facts on reflectlite's entries (turned from the kit's worked example Toyas).
-/
import Derived.Test.YtiomngaeeephhaaDoorProg
import Derived.WalkKit
import Derived.LaidEql
import Derived.Stop.Asserts
import Derived.RowKitTokens
import Derived.KernelRfl
namespace Go.Proofs.YtiomngaeeephhaaDoor
open Go.RowKit Go.Extern.Stop Go.Stop Go.Extern

theorem rlm (z : Sem Value) (f : TypeId → Addr → Nat → Nat → Sem Value) (v : Value) :
    ReflectliteValue.method z f #[v] = (do match ← ReflectliteValue.parts v with | none => z | some (t, a, fl) => f t a fl (fl % 32)) := rfl
theorem rls (v x : Value) : ReflectliteValue.set #[v, x] = (do
    let (some (dst, a, fl), some (src, b, _)) := (← ReflectliteValue.parts v, ← ReflectliteValue.parts x)
      | unsupported (.noEntry "extern/(internal/reflectlite.Value).Set.zeroValue")
    if fl / ReflectliteValue.flagAddr % 2 == 0 then unsupported (.noEntry "extern/(internal/reflectlite.Value).Set.unaddressable")
    let val ← loadVar src b
    if ← Rtype.directlyAssignable dst src then storeVar dst a val
    else if ← Rtype.implements dst src then
      if (← Rtype.kind src) == 20 then
        match val with
        | .nilIface => unsupported (.noEntry "extern/reflectlite: a nil value of one interface type handed on as a value of another")
        | _ => storeVar dst a val
      else storeVar dst a (.iface src val)
    else panicString ("reflectlite.Set: value of type " ++ (← Rtype.spelt src) ++ " is not assignable to type " ++ (← Rtype.spelt dst))
    pure (.tuple #[])) := rfl
theorem Tryd.methodKind (h : Value) (w : World) : (Go.method 227 66 (.agg #[h]) "Kind").run Tryd.prog w = .ok (39, h) w := by kernel_rfl
theorem Tryd.methodElem (h : Value) (w : World) : (Go.method 227 66 (.agg #[h]) "Elem").run Tryd.prog w = .ok (65, .agg #[h]) w := by kernel_rfl
theorem Tryd.methodImplements (h : Value) (w : World) : (Go.method 227 66 (.agg #[h]) "Implements").run Tryd.prog w = .ok (66, .agg #[h]) w := by kernel_rfl
theorem Tryd.methodAssignableTo (h : Value) (w : World) : (Go.method 227 66 (.agg #[h]) "AssignableTo").run Tryd.prog w = .ok (63, .agg #[h]) w := by kernel_rfl
theorem Tryd.methodComparable (h : Value) (w : World) : (Go.method 227 66 (.agg #[h]) "Comparable").run Tryd.prog w = .ok (64, .agg #[h]) w := by kernel_rfl

/-! ### at the target type 30 (a pointer to 28) -/
theorem Tryd.valueOf30 (t : Addr) (w : World) : (ReflectliteValue.unpack (.iface 30 (.pointer (some t)))).run Tryd.prog w
    = .ok (.agg #[.pointer (some ⟨4, 30, none⟩), .pointer (some ⟨w.heap.size, 0, none⟩), .int .u64 150]) (w.alloc (.cells #[.pointer (some t)] 30)) := by kernel_rfl
theorem Tryd.type30 (a : Addr) (w : World) : (ReflectliteValue.methodAny (ReflectliteValue.valueError "reflectlite.Value.Type" 0) (fun t _ _ _ => ReflectliteType.toType t) #[.agg #[.pointer (some ⟨4, 30, none⟩), .pointer (some a), .int .u64 150]]).run Tryd.prog w
    = .ok (.iface 66 (.agg #[.pointer (some ⟨4, 30, none⟩)])) w := by kernel_rfl
theorem Tryd.kind30 (w : World) : ((ReflectliteType.abiMethod fun t => (fun a : Nat => Value.int IntKind.u8 (a : Int)) <$> Rtype.kind t) #[.pointer (some ⟨4, 30, none⟩)]).run Tryd.prog w = .ok (.int .u8 22) w := by kernel_rfl
theorem Tryd.kind28 (w : World) : ((ReflectliteType.abiMethod fun t => (fun a : Nat => Value.int IntKind.u8 (a : Int)) <$> Rtype.kind t) #[.pointer (some ⟨4, 28, none⟩)]).run Tryd.prog w = .ok (.int .u8 22) w := by kernel_rfl
theorem Tryd.parts30 (a : Addr) (w : World) : (ReflectliteValue.parts (.agg #[.pointer (some ⟨4, 30, none⟩), .pointer (some a), .int .u64 150])).run Tryd.prog w = .ok (some (30, a, 150)) w := by kernel_rfl
theorem Tryd.isNil30 (a p : Addr) (W : World) (ha : W.cell? a = some (.pointer (some p))) :
    (ReflectliteValue.method (ReflectliteValue.valueError "reflectlite.Value.IsNil" 0) ReflectliteValue.isNil #[.agg #[.pointer (some ⟨4, 30, none⟩), .pointer (some a), .int .u64 150]]).run Tryd.prog W = .ok (.bool false) W := by
  rw [rlm]
  simp only [Sem.run_bind, Tryd.parts30, Result.andThen]
  simp [ReflectliteValue.isNil, loadVar, isAgg, underlying, Tryd.underlying30, ha, Result.andThen]
theorem Tryd.elem30 (w : World) : (ReflectliteType.method ReflectliteType.elem #[.agg #[.pointer (some ⟨4, 30, none⟩)]]).run Tryd.prog w = .ok (.iface 66 (.agg #[.pointer (some ⟨4, 28, none⟩)])) w := by kernel_rfl
theorem Tryd.implements28 (w : World) : (ReflectliteType.relation "Implements" ReflectliteType.implements_ #[.agg #[.pointer (some ⟨4, 28, none⟩)], .iface 66 (.agg #[.pointer (some ⟨4, 24, none⟩)])]).run Tryd.prog w = .ok (.bool true) w := by kernel_rfl
theorem Tryd.typeOf28 (v : Value) (w : World) : (ReflectliteType.typeOf #[.iface 28 v]).run Tryd.prog w = .ok (.iface 66 (.agg #[.pointer (some ⟨4, 28, none⟩)])) w := by kernel_rfl
theorem Tryd.elemOf30 (w : World) : (Rtype.elem? 30).run Tryd.prog w = .ok (some 28) w := by kernel_rfl
theorem Tryd.mk28 (p : Addr) (w : World) : (ReflectliteValue.mk 28 p ReflectliteValue.flagAddr).run Tryd.prog w = .ok (.agg #[.pointer (some ⟨4, 28, none⟩), .pointer (some p), .int .u64 406]) w := by kernel_rfl
theorem Tryd.elemV30 (a p : Addr) (W : World) (ha : W.cell? a = some (.pointer (some p))) :
    (ReflectliteValue.method (ReflectliteValue.valueError "reflectlite.Value.Elem" 0) ReflectliteValue.elem #[.agg #[.pointer (some ⟨4, 30, none⟩), .pointer (some a), .int .u64 150]]).run Tryd.prog W
      = .ok (.agg #[.pointer (some ⟨4, 28, none⟩), .pointer (some p), .int .u64 406]) W := by
  rw [rlm]
  simp only [Sem.run_bind, Tryd.parts30, Result.andThen]
  simp [ReflectliteValue.elem, loadVar, isAgg, underlying, Tryd.underlying30, ha, Result.andThen, Tryd.elemOf30, Tryd.mk28]
theorem Tryd.parts28a (a : Addr) (w : World) : (ReflectliteValue.parts (.agg #[.pointer (some ⟨4, 28, none⟩), .pointer (some a), .int .u64 406])).run Tryd.prog w = .ok (some (28, a, 406)) w := by kernel_rfl
theorem Tryd.parts28 (a : Addr) (w : World) : (ReflectliteValue.parts (.agg #[.pointer (some ⟨4, 28, none⟩), .pointer (some a), .int .u64 150])).run Tryd.prog w = .ok (some (28, a, 150)) w := by kernel_rfl
theorem Tryd.direct28 (w : World) : (Rtype.directlyAssignable 28 28).run Tryd.prog w = .ok true w := by kernel_rfl
theorem Tryd.size28 (w : World) : (sizeOf 28).run Tryd.prog w = .ok 1 w := by kernel_rfl
theorem Tryd.valueOf28 (e : Addr) (w : World) : (ReflectliteValue.unpack (.iface 28 (.pointer (some e)))).run Tryd.prog w
    = .ok (.agg #[.pointer (some ⟨4, 28, none⟩), .pointer (some ⟨w.heap.size, 0, none⟩), .int .u64 150]) (w.alloc (.cells #[.pointer (some e)] 28)) := by kernel_rfl
theorem Tryd.set28 (ta b : Addr) (e : Addr) (old : Value) (W : World) (hb : W.cell? b = some (.pointer (some e))) (ht : W.cell? ta = some old) (hf : W.frozen? ta = false) :
    (ReflectliteValue.set #[.agg #[.pointer (some ⟨4, 28, none⟩), .pointer (some ta), .int .u64 406], .agg #[.pointer (some ⟨4, 28, none⟩), .pointer (some b), .int .u64 150]]).run Tryd.prog W
      = .ok (.tuple #[]) (W.setCell ta (.pointer (some e))) := by
  rw [rls]
  simp only [Sem.run_bind, Tryd.parts28a, Tryd.parts28, Result.andThen]
  simp [ReflectliteValue.flagAddr, loadVar, isAgg, underlying, Tryd.underlying28, hb, Result.andThen, Tryd.direct28, storeVar, Value.cells, storeCells, Addr.add]
  rw [run_store Tryd.prog W ta _ _ (by rfl)]
  simp [ht, hf]

/-! ### at the target type 62 (a pointer to 26) -/
theorem Tryd.valueOf62 (t : Addr) (w : World) : (ReflectliteValue.unpack (.iface 62 (.pointer (some t)))).run Tryd.prog w
    = .ok (.agg #[.pointer (some ⟨4, 62, none⟩), .pointer (some ⟨w.heap.size, 0, none⟩), .int .u64 150]) (w.alloc (.cells #[.pointer (some t)] 62)) := by kernel_rfl
theorem Tryd.type62 (a : Addr) (w : World) : (ReflectliteValue.methodAny (ReflectliteValue.valueError "reflectlite.Value.Type" 0) (fun t _ _ _ => ReflectliteType.toType t) #[.agg #[.pointer (some ⟨4, 62, none⟩), .pointer (some a), .int .u64 150]]).run Tryd.prog w
    = .ok (.iface 66 (.agg #[.pointer (some ⟨4, 62, none⟩)])) w := by kernel_rfl
theorem Tryd.kind62 (w : World) : ((ReflectliteType.abiMethod fun t => (fun a : Nat => Value.int IntKind.u8 (a : Int)) <$> Rtype.kind t) #[.pointer (some ⟨4, 62, none⟩)]).run Tryd.prog w = .ok (.int .u8 22) w := by kernel_rfl
theorem Tryd.kind26 (w : World) : ((ReflectliteType.abiMethod fun t => (fun a : Nat => Value.int IntKind.u8 (a : Int)) <$> Rtype.kind t) #[.pointer (some ⟨4, 26, none⟩)]).run Tryd.prog w = .ok (.int .u8 2) w := by kernel_rfl
theorem Tryd.parts62 (a : Addr) (w : World) : (ReflectliteValue.parts (.agg #[.pointer (some ⟨4, 62, none⟩), .pointer (some a), .int .u64 150])).run Tryd.prog w = .ok (some (62, a, 150)) w := by kernel_rfl
theorem Tryd.isNil62 (a p : Addr) (W : World) (ha : W.cell? a = some (.pointer (some p))) :
    (ReflectliteValue.method (ReflectliteValue.valueError "reflectlite.Value.IsNil" 0) ReflectliteValue.isNil #[.agg #[.pointer (some ⟨4, 62, none⟩), .pointer (some a), .int .u64 150]]).run Tryd.prog W = .ok (.bool false) W := by
  rw [rlm]
  simp only [Sem.run_bind, Tryd.parts62, Result.andThen]
  simp [ReflectliteValue.isNil, loadVar, isAgg, underlying, Tryd.underlying62, ha, Result.andThen]
theorem Tryd.elem62 (w : World) : (ReflectliteType.method ReflectliteType.elem #[.agg #[.pointer (some ⟨4, 62, none⟩)]]).run Tryd.prog w = .ok (.iface 66 (.agg #[.pointer (some ⟨4, 26, none⟩)])) w := by kernel_rfl
theorem Tryd.implements26 (w : World) : (ReflectliteType.relation "Implements" ReflectliteType.implements_ #[.agg #[.pointer (some ⟨4, 26, none⟩)], .iface 66 (.agg #[.pointer (some ⟨4, 24, none⟩)])]).run Tryd.prog w = .ok (.bool true) w := by kernel_rfl
theorem Tryd.typeOf26 (v : Value) (w : World) : (ReflectliteType.typeOf #[.iface 26 v]).run Tryd.prog w = .ok (.iface 66 (.agg #[.pointer (some ⟨4, 26, none⟩)])) w := by kernel_rfl
theorem Tryd.elemOf62 (w : World) : (Rtype.elem? 62).run Tryd.prog w = .ok (some 26) w := by kernel_rfl
theorem Tryd.mk26 (p : Addr) (w : World) : (ReflectliteValue.mk 26 p ReflectliteValue.flagAddr).run Tryd.prog w = .ok (.agg #[.pointer (some ⟨4, 26, none⟩), .pointer (some p), .int .u64 386]) w := by kernel_rfl
theorem Tryd.elemV62 (a p : Addr) (W : World) (ha : W.cell? a = some (.pointer (some p))) :
    (ReflectliteValue.method (ReflectliteValue.valueError "reflectlite.Value.Elem" 0) ReflectliteValue.elem #[.agg #[.pointer (some ⟨4, 62, none⟩), .pointer (some a), .int .u64 150]]).run Tryd.prog W
      = .ok (.agg #[.pointer (some ⟨4, 26, none⟩), .pointer (some p), .int .u64 386]) W := by
  rw [rlm]
  simp only [Sem.run_bind, Tryd.parts62, Result.andThen]
  simp [ReflectliteValue.elem, loadVar, isAgg, underlying, Tryd.underlying62, ha, Result.andThen, Tryd.elemOf62, Tryd.mk26]
theorem Tryd.parts26a (a : Addr) (w : World) : (ReflectliteValue.parts (.agg #[.pointer (some ⟨4, 26, none⟩), .pointer (some a), .int .u64 386])).run Tryd.prog w = .ok (some (26, a, 386)) w := by kernel_rfl
theorem Tryd.parts26 (a : Addr) (w : World) : (ReflectliteValue.parts (.agg #[.pointer (some ⟨4, 26, none⟩), .pointer (some a), .int .u64 130])).run Tryd.prog w = .ok (some (26, a, 130)) w := by kernel_rfl
theorem Tryd.direct26 (w : World) : (Rtype.directlyAssignable 26 26).run Tryd.prog w = .ok true w := by kernel_rfl
theorem Tryd.size26 (w : World) : (sizeOf 26).run Tryd.prog w = .ok 1 w := by kernel_rfl
theorem Tryd.valueOf26 (e : Int) (w : World) : (ReflectliteValue.unpack (.iface 26 (.int .i64 e))).run Tryd.prog w
    = .ok (.agg #[.pointer (some ⟨4, 26, none⟩), .pointer (some ⟨w.heap.size, 0, none⟩), .int .u64 130]) (w.alloc (.cells #[.int .i64 e] 26)) := by kernel_rfl
theorem Tryd.set26 (ta b : Addr) (e : Int) (old : Value) (W : World) (hb : W.cell? b = some (.int .i64 e)) (ht : W.cell? ta = some old) (hf : W.frozen? ta = false) :
    (ReflectliteValue.set #[.agg #[.pointer (some ⟨4, 26, none⟩), .pointer (some ta), .int .u64 386], .agg #[.pointer (some ⟨4, 26, none⟩), .pointer (some b), .int .u64 130]]).run Tryd.prog W
      = .ok (.tuple #[]) (W.setCell ta (.int .i64 e)) := by
  rw [rls]
  simp only [Sem.run_bind, Tryd.parts26a, Tryd.parts26, Result.andThen]
  simp [ReflectliteValue.flagAddr, loadVar, isAgg, underlying, Tryd.underlying26, hb, Result.andThen, Tryd.direct26, storeVar, Value.cells, storeCells, Addr.add]
  rw [run_store Tryd.prog W ta _ _ (by rfl)]
  simp [ht, hf]
theorem Tryd.assignable28to28 (w : World) : (ReflectliteType.relation "AssignableTo" ReflectliteType.assignableTo #[.agg #[.pointer (some ⟨4, 28, none⟩)], .iface 66 (.agg #[.pointer (some ⟨4, 28, none⟩)])]).run Tryd.prog w = .ok (.bool true) w := by kernel_rfl
theorem Tryd.assignable28to26 (w : World) : (ReflectliteType.relation "AssignableTo" ReflectliteType.assignableTo #[.agg #[.pointer (some ⟨4, 28, none⟩)], .iface 66 (.agg #[.pointer (some ⟨4, 26, none⟩)])]).run Tryd.prog w = .ok (.bool false) w := by kernel_rfl
theorem Tryd.assignable26to28 (w : World) : (ReflectliteType.relation "AssignableTo" ReflectliteType.assignableTo #[.agg #[.pointer (some ⟨4, 26, none⟩)], .iface 66 (.agg #[.pointer (some ⟨4, 28, none⟩)])]).run Tryd.prog w = .ok (.bool false) w := by kernel_rfl
theorem Tryd.assignable26to26 (w : World) : (ReflectliteType.relation "AssignableTo" ReflectliteType.assignableTo #[.agg #[.pointer (some ⟨4, 26, none⟩)], .iface 66 (.agg #[.pointer (some ⟨4, 26, none⟩)])]).run Tryd.prog w = .ok (.bool true) w := by kernel_rfl
theorem Tryd.ptrUnwrapAhead (a : Addr) (w : World) : (nilAhead 227 28 (.pointer (some a)) "Unwrap").run Tryd.prog w = .ok (some false) w := by kernel_rfl
theorem Tryd.ptrUnwrap (a : Addr) (w : World) : (Go.method 227 28 (.pointer (some a)) "Unwrap").run Tryd.prog w = .ok (58, .pointer (some a)) w := by kernel_rfl
theorem Tryd.ptrErrorAhead (a : Addr) (w : World) : (nilAhead 227 28 (.pointer (some a)) "Error").run Tryd.prog w = .ok (some false) w := by kernel_rfl
theorem Tryd.ptrError (a : Addr) (w : World) : (Go.method 227 28 (.pointer (some a)) "Error").run Tryd.prog w = .ok (57, .pointer (some a)) w := by kernel_rfl
theorem Tryd.intError (e : Int) (w : World) : (Go.method 227 26 (.int .i64 e) "Error").run Tryd.prog w = .ok (42, .int .i64 e) w := by kernel_rfl
theorem Tryd.no28_70 (v : Value) (xT : TypeId) (w : World) : (Instr.typeAssert (.iface 28 v) xT 70 true).run Tryd.prog w = .ok (.tuple #[.nilIface, .bool false]) w := run_typeAssert_lacksB Tryd.underlying70 (by kernel_rfl) (by kernel_rfl) v xT w
theorem Tryd.no26_70 (v : Value) (xT : TypeId) (w : World) : (Instr.typeAssert (.iface 26 v) xT 70 true).run Tryd.prog w = .ok (.tuple #[.nilIface, .bool false]) w := run_typeAssert_lacksB Tryd.underlying70 (by kernel_rfl) (by kernel_rfl) v xT w
theorem Tryd.has28_57 (v : Value) (xT : TypeId) (w : World) : (Instr.typeAssert (.iface 28 v) xT 57 true).run Tryd.prog w = .ok (.tuple #[.iface 28 v, .bool true]) w := run_typeAssert_hasB Tryd.underlying57 (by kernel_rfl) v xT w
theorem Tryd.no26_57 (v : Value) (xT : TypeId) (w : World) : (Instr.typeAssert (.iface 26 v) xT 57 true).run Tryd.prog w = .ok (.tuple #[.nilIface, .bool false]) w := run_typeAssert_lacksB Tryd.underlying57 (by kernel_rfl) (by kernel_rfl) v xT w
theorem Tryd.no28_73 (v : Value) (xT : TypeId) (w : World) : (Instr.typeAssert (.iface 28 v) xT 73 true).run Tryd.prog w = .ok (.tuple #[.nilIface, .bool false]) w := run_typeAssert_lacksB Tryd.underlying73 (by kernel_rfl) (by kernel_rfl) v xT w
theorem Tryd.no26_73 (v : Value) (xT : TypeId) (w : World) : (Instr.typeAssert (.iface 26 v) xT 73 true).run Tryd.prog w = .ok (.tuple #[.nilIface, .bool false]) w := run_typeAssert_lacksB Tryd.underlying73 (by kernel_rfl) (by kernel_rfl) v xT w
theorem Tryd.no28_76 (v : Value) (xT : TypeId) (w : World) : (Instr.typeAssert (.iface 28 v) xT 76 true).run Tryd.prog w = .ok (.tuple #[.nilIface, .bool false]) w := run_typeAssert_lacksB Tryd.underlying76 (by kernel_rfl) (by kernel_rfl) v xT w
theorem Tryd.no26_76 (v : Value) (xT : TypeId) (w : World) : (Instr.typeAssert (.iface 26 v) xT 76 true).run Tryd.prog w = .ok (.tuple #[.nilIface, .bool false]) w := run_typeAssert_lacksB Tryd.underlying76 (by kernel_rfl) (by kernel_rfl) v xT w
theorem Tryd.ext16 (args : Array Value) (w : World) : (callFunc 16 args).run Tryd.prog w = ((ReflectliteValue.unpack (args.getD 0 (.tuple #[]))).run Tryd.prog w).andThen fun v w' => .ok (.value v) w' := run_callFunc_extern (e := fun args => ReflectliteValue.unpack (args.getD 0 (.tuple #[]))) Tryd.func16 (by kernel_rfl) (by kernel_rfl) (by kernel_rfl) (by kernel_rfl) args w
theorem Tryd.ext17 (args : Array Value) (w : World) : (callFunc 17 args).run Tryd.prog w = ((ReflectliteValue.methodAny (ReflectliteValue.valueError "reflectlite.Value.Type" 0) (fun t _ _ _ => ReflectliteType.toType t) args).run Tryd.prog w).andThen fun v w' => .ok (.value v) w' := run_callFunc_extern (e := ReflectliteValue.methodAny (ReflectliteValue.valueError "reflectlite.Value.Type" 0) (fun t _ _ _ => ReflectliteType.toType t)) Tryd.func17 (by kernel_rfl) (by kernel_rfl) (by kernel_rfl) (by kernel_rfl) args w
theorem Tryd.ext18 (args : Array Value) (w : World) : (callFunc 18 args).run Tryd.prog w = ((ReflectliteValue.method (ReflectliteValue.valueError "reflectlite.Value.IsNil" 0) ReflectliteValue.isNil args).run Tryd.prog w).andThen fun v w' => .ok (.value v) w' := run_callFunc_extern (e := ReflectliteValue.method (ReflectliteValue.valueError "reflectlite.Value.IsNil" 0) ReflectliteValue.isNil) Tryd.func18 (by kernel_rfl) (by kernel_rfl) (by kernel_rfl) (by kernel_rfl) args w
theorem Tryd.ext39 (args : Array Value) (w : World) : (callFunc 39 args).run Tryd.prog w = (((ReflectliteType.abiMethod fun t => (fun a : Nat => Value.int IntKind.u8 (a : Int)) <$> Rtype.kind t) args).run Tryd.prog w).andThen fun v w' => .ok (.value v) w' := run_callFunc_extern (e := ReflectliteType.abiMethod fun t => do pure (.int .u8 (← Rtype.kind t))) Tryd.func39 (by kernel_rfl) (by kernel_rfl) (by kernel_rfl) (by kernel_rfl) args w
theorem Tryd.ext65 (args : Array Value) (w : World) : (callFunc 65 args).run Tryd.prog w = ((ReflectliteType.method ReflectliteType.elem args).run Tryd.prog w).andThen fun v w' => .ok (.value v) w' := run_callFunc_extern (e := ReflectliteType.method ReflectliteType.elem) Tryd.func65 (by kernel_rfl) (by kernel_rfl) (by kernel_rfl) (by kernel_rfl) args w
theorem Tryd.ext66 (args : Array Value) (w : World) : (callFunc 66 args).run Tryd.prog w = ((ReflectliteType.relation "Implements" ReflectliteType.implements_ args).run Tryd.prog w).andThen fun v w' => .ok (.value v) w' := run_callFunc_extern (e := ReflectliteType.relation "Implements" ReflectliteType.implements_) Tryd.func66 (by kernel_rfl) (by kernel_rfl) (by kernel_rfl) (by kernel_rfl) args w
theorem Tryd.ext21 (args : Array Value) (w : World) : (callFunc 21 args).run Tryd.prog w = ((ReflectliteType.typeOf args).run Tryd.prog w).andThen fun v w' => .ok (.value v) w' := run_callFunc_extern (e := ReflectliteType.typeOf) Tryd.func21 (by kernel_rfl) (by kernel_rfl) (by kernel_rfl) (by kernel_rfl) args w
theorem Tryd.ext63 (args : Array Value) (w : World) : (callFunc 63 args).run Tryd.prog w = ((ReflectliteType.relation "AssignableTo" ReflectliteType.assignableTo args).run Tryd.prog w).andThen fun v w' => .ok (.value v) w' := run_callFunc_extern (e := ReflectliteType.relation "AssignableTo" ReflectliteType.assignableTo) Tryd.func63 (by kernel_rfl) (by kernel_rfl) (by kernel_rfl) (by kernel_rfl) args w
theorem Tryd.ext64 (args : Array Value) (w : World) : (callFunc 64 args).run Tryd.prog w = ((ReflectliteType.method (fun t => do Rtype.noPackHeld "Comparable" t; pure (.bool (← typeInfo t).comparable)) args).run Tryd.prog w).andThen fun v w' => .ok (.value v) w' := run_callFunc_extern (e := ReflectliteType.method (fun t => do Rtype.noPackHeld "Comparable" t; pure (.bool (← typeInfo t).comparable))) Tryd.func64 (by kernel_rfl) (by kernel_rfl) (by kernel_rfl) (by kernel_rfl) args w
theorem Tryd.ext23 (args : Array Value) (w : World) : (callFunc 23 args).run Tryd.prog w = ((ReflectliteValue.method (ReflectliteValue.valueError "reflectlite.Value.Elem" 0) ReflectliteValue.elem args).run Tryd.prog w).andThen fun v w' => .ok (.value v) w' := run_callFunc_extern (e := ReflectliteValue.method (ReflectliteValue.valueError "reflectlite.Value.Elem" 0) ReflectliteValue.elem) Tryd.func23 (by kernel_rfl) (by kernel_rfl) (by kernel_rfl) (by kernel_rfl) args w
theorem Tryd.ext24 (args : Array Value) (w : World) : (callFunc 24 args).run Tryd.prog w = ((ReflectliteValue.set args).run Tryd.prog w).andThen fun v w' => .ok (.value v) w' := run_callFunc_extern (e := ReflectliteValue.set) Tryd.func24 (by kernel_rfl) (by kernel_rfl) (by kernel_rfl) (by kernel_rfl) args w
theorem Tryd.comparable26 (w : World) : (callFunc 64 #[.agg #[.pointer (some ⟨4, 26, none⟩)]]).run Tryd.prog w = .ok (.value (.bool true)) w := by
  rw [Tryd.ext64]; kernel_rfl
end Go.Proofs.YtiomngaeeephhaaDoor
