/-
  errors.As of a number at the target **api.At: false.
-/
import Derived.Test.YtkooakadckjpkaaGreatDoorTellB
namespace Go.Proofs.YtkooakadckjpkaaGreatDoor
open Go.RowKit Go.Extern.Stop Go.Stop Go.Extern

theorem noAs (v : Value) (xT : TypeId) (w : World) : (Instr.typeAssert (.iface 23 v) xT 101 true).run Tryz.prog w = .ok (.tuple #[.nilIface, .bool false]) w := run_typeAssert_lacksB Tryz.underlying101 (by kernel_rfl) (by kernel_rfl) v xT w
theorem noUn (v : Value) (xT : TypeId) (w : World) : (Instr.typeAssert (.iface 23 v) xT 104 true).run Tryz.prog w = .ok (.tuple #[.nilIface, .bool false]) w := run_typeAssert_lacksB Tryz.underlying104 (by kernel_rfl) (by kernel_rfl) v xT w
theorem noUns (v : Value) (xT : TypeId) (w : World) : (Instr.typeAssert (.iface 23 v) xT 106 true).run Tryz.prog w = .ok (.tuple #[.nilIface, .bool false]) w := run_typeAssert_lacksB Tryz.underlying106 (by kernel_rfl) (by kernel_rfl) v xT w

set_option maxRecDepth 100000 in
set_option maxHeartbeats 4000000 in
theorem asA_miss (n : Int) (t : Addr) (old : Value) (w : World) (hg : ErrT w) (ht0 : w.cell? t = some old) :
    Calls Tryz.prog 18 #[.iface 23 (.int .i64 n), .iface 47 (.pointer (some t))] w fun ev w' => ev = .returned (.bool false) ∧ w' = ((w.alloc (.cells #[.pointer (some t)] 47)).alloc (.cells #[.pointer (some ⟨7, 47, none⟩), .pointer (some ⟨w.heap.size, 0, none⟩), .int .u64 150] 68)).alloc (.cells #[.pointer (some ⟨7, 47, none⟩), .pointer (some ⟨w.heap.size, 0, none⟩), .int .u64 150] 68) := by
  have h6 := @run_callFunc_extern Tryz.prog 35 _ (fun args => ReflectliteValue.unpack (args.getD 0 (.tuple #[]))) Tryz.func35 (by kernel_rfl) (by kernel_rfl) (by kernel_rfl) (by kernel_rfl)
  have h7 := @run_callFunc_extern Tryz.prog 36 _ (ReflectliteValue.methodAny (ReflectliteValue.valueError "reflectlite.Value.Type" 0) (fun t _ _ _ => ReflectliteType.toType t)) Tryz.func36 (by kernel_rfl) (by kernel_rfl) (by kernel_rfl) (by kernel_rfl)
  have h8 := @run_callFunc_extern Tryz.prog 37 _ (ReflectliteValue.method (ReflectliteValue.valueError "reflectlite.Value.IsNil" 0) ReflectliteValue.isNil) Tryz.func37 (by kernel_rfl) (by kernel_rfl) (by kernel_rfl) (by kernel_rfl)
  have h27 := @run_callFunc_extern Tryz.prog 118 _ (ReflectliteType.abiMethod fun t => do pure (.int .u8 (← Rtype.kind t))) Tryz.func118 (by kernel_rfl) (by kernel_rfl) (by kernel_rfl) (by kernel_rfl)
  have h37 := @run_callFunc_extern Tryz.prog 131 _ (ReflectliteType.method ReflectliteType.elem) Tryz.func131 (by kernel_rfl) (by kernel_rfl) (by kernel_rfl) (by kernel_rfl)
  have h38 := @run_callFunc_extern Tryz.prog 132 _ (ReflectliteType.relation "Implements" ReflectliteType.implements_) Tryz.func132 (by kernel_rfl) (by kernel_rfl) (by kernel_rfl) (by kernel_rfl)
  have h10 := @run_callFunc_extern Tryz.prog 57 _ (ReflectliteType.typeOf) Tryz.func57 (by kernel_rfl) (by kernel_rfl) (by kernel_rfl) (by kernel_rfl)
  have h35 := @run_callFunc_extern Tryz.prog 129 _ (ReflectliteType.relation "AssignableTo" ReflectliteType.assignableTo) Tryz.func129 (by kernel_rfl) (by kernel_rfl) (by kernel_rfl) (by kernel_rfl)
  have h11 := @run_callFunc_extern Tryz.prog 58 _ (ReflectliteValue.method (ReflectliteValue.valueError "reflectlite.Value.Elem" 0) ReflectliteValue.elem) Tryz.func58 (by kernel_rfl) (by kernel_rfl) (by kernel_rfl) (by kernel_rfl)
  have h12 := @run_callFunc_extern Tryz.prog 59 _ (ReflectliteValue.set) Tryz.func59 (by kernel_rfl) (by kernel_rfl) (by kernel_rfl) (by kernel_rfl)
  have q1 := noAs
  have q2 := noUn
  have q3 := noUns
  have tO := aTypeOfN
  have mA := methodAssignableTo
  have a25 := aAssignableN
  have f6 := aValueOf
  have f7 := aType
  have mK := methodKind
  have mE := methodElem
  have mI := methodImplements
  have k27 := aKindP
  have k25 := aKind
  have e27 := aElem
  have i25 := aImplements
  have n8 := aIsNil ⟨w.heap.size, 0, none⟩ t ((w.alloc (.cells #[.pointer (some t)] 47)).alloc (.cells #[.pointer (some ⟨7, 47, none⟩), .pointer (some ⟨w.heap.size, 0, none⟩), .int .u64 150] 68)) (by simp)
  unfold ErrT at hg
  have hlt : 0 < w.heap.size := World.block_lt_of_cell? w _ hg
  have hg2 : ((w.alloc (.cells #[.pointer (some t)] 47)).alloc (.cells #[.pointer (some ⟨7, 47, none⟩), .pointer (some ⟨w.heap.size, 0, none⟩), .int .u64 150] 68)).cell? ⟨0, 0, none⟩ = some (.iface 96 (.agg #[.pointer (some ⟨7, 30, none⟩)])) := by
    rw [World.cell?_alloc_lt _ _ ⟨0, 0, none⟩ (by simp <;> omega), World.cell?_alloc_lt _ _ ⟨0, 0, none⟩ hlt]; exact hg
  go_enter Tryz.func18, Tryz.ntmps18
  go_wp2
  refine wp_loop_rounds 1 ?_
  rw [rounds_succ]
  go_wp2
  go_ret
  exact ⟨rfl, rfl⟩

theorem as_nil (t : Value) (w : World) : Calls Tryz.prog 18 #[.nilIface, t] w fun e w' => e = .returned (.bool false) ∧ w' = w := by
  go_enter Tryz.func18, Tryz.ntmps18
  go_wp2
  go_ret
  exact ⟨rfl, rfl⟩
end Go.Proofs.YtkooakadckjpkaaGreatDoor
