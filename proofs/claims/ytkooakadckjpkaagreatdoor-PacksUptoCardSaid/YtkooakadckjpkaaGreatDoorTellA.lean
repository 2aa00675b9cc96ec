/-
  api.Tell: what an error says: its number and place. errors.As by Go's own text, at the two targets that Tell has.
-/
import Derived.Test.YtkooakadckjpkaaGreatDoorBase
import Derived.LaidEql
import Derived.Stop.Asserts
import Derived.RowKitTokens
namespace Go.Proofs.YtkooakadckjpkaaGreatDoor
open Go.RowKit Go.Extern.Stop Go.Stop Go.Extern

theorem rlm (z : Sem Value) (f : TypeId → Addr → Nat → Nat → Sem Value) (v : Value) :
    ReflectliteValue.method z f #[v] = (do match ← ReflectliteValue.parts v with | none => z | some (t, a, fl) => f t a fl (fl % 32)) := rfl
theorem rls (v x : Value) : ReflectliteValue.set #[v, x] = (do
    let (some (dst, a, fl), some (src, b, _)) := (← ReflectliteValue.parts v, ← ReflectliteValue.parts x)
      | unsupported (.noEntry "extern/(internal/reflectlite.Value).Set.zeroValue")
    if fl / ReflectliteValue.flagAddr % 2 == 0 then unsupported (.noEntry "extern/(internal/reflectlite.Value).Set.unaddressable")
    let val ← loadVar src b
    if ← Rtype.directlyAssignable dst src then storeVar dst a val
    else if ← Rtype.implements dst src then
      if (← Rtype.kind src) == 20 then
        match val with
        | .nilIface => unsupported (.noEntry "extern/reflectlite: a nil value of one interface type handed on as a value of another")
        | _ => storeVar dst a val
      else storeVar dst a (.iface src val)
    else panicString ("reflectlite.Set: value of type " ++ (← Rtype.spelt src) ++ " is not assignable to type " ++ (← Rtype.spelt dst))
    pure (.tuple #[])) := rfl
theorem methodKind (h : Value) (w : World) : (Go.method 274 96 (.agg #[h]) "Kind").run Tryz.prog w = .ok (118, h) w := by kernel_rfl
theorem methodElem (h : Value) (w : World) : (Go.method 274 96 (.agg #[h]) "Elem").run Tryz.prog w = .ok (131, .agg #[h]) w := by kernel_rfl
theorem methodImplements (h : Value) (w : World) : (Go.method 274 96 (.agg #[h]) "Implements").run Tryz.prog w = .ok (132, .agg #[h]) w := by kernel_rfl
theorem methodAssignableTo (h : Value) (w : World) : (Go.method 274 96 (.agg #[h]) "AssignableTo").run Tryz.prog w = .ok (129, .agg #[h]) w := by kernel_rfl

/-! ### the target **api.At -/
theorem aValueOf (t : Addr) (w : World) : (ReflectliteValue.unpack (.iface 47 (.pointer (some t)))).run Tryz.prog w
    = .ok (.agg #[.pointer (some ⟨7, 47, none⟩), .pointer (some ⟨w.heap.size, 0, none⟩), .int .u64 150]) (w.alloc (.cells #[.pointer (some t)] 47)) := by kernel_rfl
theorem aType (a : Addr) (w : World) : (ReflectliteValue.methodAny (ReflectliteValue.valueError "reflectlite.Value.Type" 0) (fun t _ _ _ => ReflectliteType.toType t) #[.agg #[.pointer (some ⟨7, 47, none⟩), .pointer (some a), .int .u64 150]]).run Tryz.prog w
    = .ok (.iface 96 (.agg #[.pointer (some ⟨7, 47, none⟩)])) w := by kernel_rfl
theorem aKindP (w : World) : ((ReflectliteType.abiMethod fun t => (fun a : Nat => Value.int IntKind.u8 (a : Int)) <$> Rtype.kind t) #[.pointer (some ⟨7, 47, none⟩)]).run Tryz.prog w = .ok (.int .u8 22) w := by kernel_rfl
theorem aKind (w : World) : ((ReflectliteType.abiMethod fun t => (fun a : Nat => Value.int IntKind.u8 (a : Int)) <$> Rtype.kind t) #[.pointer (some ⟨7, 45, none⟩)]).run Tryz.prog w = .ok (.int .u8 22) w := by kernel_rfl
theorem aParts (a : Addr) (w : World) : (ReflectliteValue.parts (.agg #[.pointer (some ⟨7, 47, none⟩), .pointer (some a), .int .u64 150])).run Tryz.prog w = .ok (some (47, a, 150)) w := by kernel_rfl
theorem aIsNil (a p : Addr) (W : World) (ha : W.cell? a = some (.pointer (some p))) :
    (ReflectliteValue.method (ReflectliteValue.valueError "reflectlite.Value.IsNil" 0) ReflectliteValue.isNil #[.agg #[.pointer (some ⟨7, 47, none⟩), .pointer (some a), .int .u64 150]]).run Tryz.prog W = .ok (.bool false) W := by
  rw [rlm]
  simp only [Sem.run_bind, aParts, Result.andThen]
  simp [ReflectliteValue.isNil, loadVar, isAgg, underlying, Tryz.underlying47, ha, Result.andThen]
theorem aElem (w : World) : (ReflectliteType.method ReflectliteType.elem #[.agg #[.pointer (some ⟨7, 47, none⟩)]]).run Tryz.prog w = .ok (.iface 96 (.agg #[.pointer (some ⟨7, 45, none⟩)])) w := by kernel_rfl
theorem aImplements (w : World) : (ReflectliteType.relation "Implements" ReflectliteType.implements_ #[.agg #[.pointer (some ⟨7, 45, none⟩)], .iface 96 (.agg #[.pointer (some ⟨7, 30, none⟩)])]).run Tryz.prog w = .ok (.bool true) w := by kernel_rfl
theorem aTypeOf (v : Value) (w : World) : (ReflectliteType.typeOf #[.iface 45 v]).run Tryz.prog w = .ok (.iface 96 (.agg #[.pointer (some ⟨7, 45, none⟩)])) w := by kernel_rfl
theorem aAssignable (w : World) : (ReflectliteType.relation "AssignableTo" ReflectliteType.assignableTo #[.agg #[.pointer (some ⟨7, 45, none⟩)], .iface 96 (.agg #[.pointer (some ⟨7, 45, none⟩)])]).run Tryz.prog w = .ok (.bool true) w := by kernel_rfl
theorem aValueOfE (e : Addr) (w : World) : (ReflectliteValue.unpack (.iface 45 (.pointer (some e)))).run Tryz.prog w
    = .ok (.agg #[.pointer (some ⟨7, 45, none⟩), .pointer (some ⟨w.heap.size, 0, none⟩), .int .u64 150]) (w.alloc (.cells #[.pointer (some e)] 45)) := by kernel_rfl
theorem aElemOf (w : World) : (Rtype.elem? 47).run Tryz.prog w = .ok (some 45) w := by kernel_rfl
theorem aMk (p : Addr) (w : World) : (ReflectliteValue.mk 45 p ReflectliteValue.flagAddr).run Tryz.prog w = .ok (.agg #[.pointer (some ⟨7, 45, none⟩), .pointer (some p), .int .u64 406]) w := by kernel_rfl
theorem aElemV (a p : Addr) (W : World) (ha : W.cell? a = some (.pointer (some p))) :
    (ReflectliteValue.method (ReflectliteValue.valueError "reflectlite.Value.Elem" 0) ReflectliteValue.elem #[.agg #[.pointer (some ⟨7, 47, none⟩), .pointer (some a), .int .u64 150]]).run Tryz.prog W
      = .ok (.agg #[.pointer (some ⟨7, 45, none⟩), .pointer (some p), .int .u64 406]) W := by
  rw [rlm]
  simp only [Sem.run_bind, aParts, Result.andThen]
  simp [ReflectliteValue.elem, loadVar, isAgg, underlying, Tryz.underlying47, ha, Result.andThen, aElemOf, aMk]
theorem aPartsA (a : Addr) (w : World) : (ReflectliteValue.parts (.agg #[.pointer (some ⟨7, 45, none⟩), .pointer (some a), .int .u64 406])).run Tryz.prog w = .ok (some (45, a, 406)) w := by kernel_rfl
theorem aPartsE (a : Addr) (w : World) : (ReflectliteValue.parts (.agg #[.pointer (some ⟨7, 45, none⟩), .pointer (some a), .int .u64 150])).run Tryz.prog w = .ok (some (45, a, 150)) w := by kernel_rfl
theorem aDirect (w : World) : (Rtype.directlyAssignable 45 45).run Tryz.prog w = .ok true w := by kernel_rfl
theorem aSet (ta b e : Addr) (old : Value) (W : World) (hb : W.cell? b = some (.pointer (some e))) (ht : W.cell? ta = some old) (hf : W.frozen? ta = false) :
    (ReflectliteValue.set #[.agg #[.pointer (some ⟨7, 45, none⟩), .pointer (some ta), .int .u64 406], .agg #[.pointer (some ⟨7, 45, none⟩), .pointer (some b), .int .u64 150]]).run Tryz.prog W
      = .ok (.tuple #[]) (W.setCell ta (.pointer (some e))) := by
  rw [rls]
  simp only [Sem.run_bind, aPartsA, aPartsE, Result.andThen]
  simp [ReflectliteValue.flagAddr, loadVar, isAgg, underlying, Tryz.underlying45, hb, Result.andThen, aDirect, storeVar, Value.cells, storeCells, Addr.add]
  rw [run_store Tryz.prog W ta _ _ (by rfl)]
  simp [ht, hf]
/-- an Errno is no *At -/
theorem aTypeOfN (v : Value) (w : World) : (ReflectliteType.typeOf #[.iface 23 v]).run Tryz.prog w = .ok (.iface 96 (.agg #[.pointer (some ⟨7, 23, none⟩)])) w := by kernel_rfl
theorem aAssignableN (w : World) : (ReflectliteType.relation "AssignableTo" ReflectliteType.assignableTo #[.agg #[.pointer (some ⟨7, 23, none⟩)], .iface 96 (.agg #[.pointer (some ⟨7, 45, none⟩)])]).run Tryz.prog w = .ok (.bool false) w := by kernel_rfl

/-! ### the target *api.Errno -/
theorem nValueOf (t : Addr) (w : World) : (ReflectliteValue.unpack (.iface 50 (.pointer (some t)))).run Tryz.prog w
    = .ok (.agg #[.pointer (some ⟨7, 50, none⟩), .pointer (some ⟨w.heap.size, 0, none⟩), .int .u64 150]) (w.alloc (.cells #[.pointer (some t)] 50)) := by kernel_rfl
theorem nType (a : Addr) (w : World) : (ReflectliteValue.methodAny (ReflectliteValue.valueError "reflectlite.Value.Type" 0) (fun t _ _ _ => ReflectliteType.toType t) #[.agg #[.pointer (some ⟨7, 50, none⟩), .pointer (some a), .int .u64 150]]).run Tryz.prog w
    = .ok (.iface 96 (.agg #[.pointer (some ⟨7, 50, none⟩)])) w := by kernel_rfl
theorem nKindP (w : World) : ((ReflectliteType.abiMethod fun t => (fun a : Nat => Value.int IntKind.u8 (a : Int)) <$> Rtype.kind t) #[.pointer (some ⟨7, 50, none⟩)]).run Tryz.prog w = .ok (.int .u8 22) w := by kernel_rfl
theorem nKind (w : World) : ((ReflectliteType.abiMethod fun t => (fun a : Nat => Value.int IntKind.u8 (a : Int)) <$> Rtype.kind t) #[.pointer (some ⟨7, 23, none⟩)]).run Tryz.prog w = .ok (.int .u8 2) w := by kernel_rfl
theorem nParts (a : Addr) (w : World) : (ReflectliteValue.parts (.agg #[.pointer (some ⟨7, 50, none⟩), .pointer (some a), .int .u64 150])).run Tryz.prog w = .ok (some (50, a, 150)) w := by kernel_rfl
theorem nIsNil (a p : Addr) (W : World) (ha : W.cell? a = some (.pointer (some p))) :
    (ReflectliteValue.method (ReflectliteValue.valueError "reflectlite.Value.IsNil" 0) ReflectliteValue.isNil #[.agg #[.pointer (some ⟨7, 50, none⟩), .pointer (some a), .int .u64 150]]).run Tryz.prog W = .ok (.bool false) W := by
  rw [rlm]
  simp only [Sem.run_bind, nParts, Result.andThen]
  simp [ReflectliteValue.isNil, loadVar, isAgg, underlying, Tryz.underlying50, ha, Result.andThen]
theorem nElem (w : World) : (ReflectliteType.method ReflectliteType.elem #[.agg #[.pointer (some ⟨7, 50, none⟩)]]).run Tryz.prog w = .ok (.iface 96 (.agg #[.pointer (some ⟨7, 23, none⟩)])) w := by kernel_rfl
theorem nImplements (w : World) : (ReflectliteType.relation "Implements" ReflectliteType.implements_ #[.agg #[.pointer (some ⟨7, 23, none⟩)], .iface 96 (.agg #[.pointer (some ⟨7, 30, none⟩)])]).run Tryz.prog w = .ok (.bool true) w := by kernel_rfl
theorem nAssignable (w : World) : (ReflectliteType.relation "AssignableTo" ReflectliteType.assignableTo #[.agg #[.pointer (some ⟨7, 23, none⟩)], .iface 96 (.agg #[.pointer (some ⟨7, 23, none⟩)])]).run Tryz.prog w = .ok (.bool true) w := by kernel_rfl
theorem nValueOfE (n : Int) (w : World) : (ReflectliteValue.unpack (.iface 23 (.int .i64 n))).run Tryz.prog w
    = .ok (.agg #[.pointer (some ⟨7, 23, none⟩), .pointer (some ⟨w.heap.size, 0, none⟩), .int .u64 130]) (w.alloc (.cells #[.int .i64 n] 23)) := by kernel_rfl
theorem nElemOf (w : World) : (Rtype.elem? 50).run Tryz.prog w = .ok (some 23) w := by kernel_rfl
theorem nMk (p : Addr) (w : World) : (ReflectliteValue.mk 23 p ReflectliteValue.flagAddr).run Tryz.prog w = .ok (.agg #[.pointer (some ⟨7, 23, none⟩), .pointer (some p), .int .u64 386]) w := by kernel_rfl
theorem nElemV (a p : Addr) (W : World) (ha : W.cell? a = some (.pointer (some p))) :
    (ReflectliteValue.method (ReflectliteValue.valueError "reflectlite.Value.Elem" 0) ReflectliteValue.elem #[.agg #[.pointer (some ⟨7, 50, none⟩), .pointer (some a), .int .u64 150]]).run Tryz.prog W
      = .ok (.agg #[.pointer (some ⟨7, 23, none⟩), .pointer (some p), .int .u64 386]) W := by
  rw [rlm]
  simp only [Sem.run_bind, nParts, Result.andThen]
  simp [ReflectliteValue.elem, loadVar, isAgg, underlying, Tryz.underlying50, ha, Result.andThen, nElemOf, nMk]
theorem nPartsA (a : Addr) (w : World) : (ReflectliteValue.parts (.agg #[.pointer (some ⟨7, 23, none⟩), .pointer (some a), .int .u64 386])).run Tryz.prog w = .ok (some (23, a, 386)) w := by kernel_rfl
theorem nPartsE (a : Addr) (w : World) : (ReflectliteValue.parts (.agg #[.pointer (some ⟨7, 23, none⟩), .pointer (some a), .int .u64 130])).run Tryz.prog w = .ok (some (23, a, 130)) w := by kernel_rfl
theorem nDirect (w : World) : (Rtype.directlyAssignable 23 23).run Tryz.prog w = .ok true w := by kernel_rfl
theorem nSet (ta b : Addr) (n : Int) (old : Value) (W : World) (hb : W.cell? b = some (.int .i64 n)) (ht : W.cell? ta = some old) (hf : W.frozen? ta = false) :
    (ReflectliteValue.set #[.agg #[.pointer (some ⟨7, 23, none⟩), .pointer (some ta), .int .u64 386], .agg #[.pointer (some ⟨7, 23, none⟩), .pointer (some b), .int .u64 130]]).run Tryz.prog W
      = .ok (.tuple #[]) (W.setCell ta (.int .i64 n)) := by
  rw [rls]
  simp only [Sem.run_bind, nPartsA, nPartsE, Result.andThen]
  simp [ReflectliteValue.flagAddr, loadVar, isAgg, underlying, Tryz.underlying23, hb, Result.andThen, nDirect, storeVar, Value.cells, storeCells, Addr.add]
  rw [run_store Tryz.prog W ta _ _ (by rfl)]
  simp [ht, hf]
end Go.Proofs.YtkooakadckjpkaaGreatDoor
