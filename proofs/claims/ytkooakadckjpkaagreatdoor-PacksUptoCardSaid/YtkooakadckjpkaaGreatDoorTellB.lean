/-
  errors.As at the two targets of api.Tell, by Go's own text; api.Tell.
-/
import Derived.Test.YtkooakadckjpkaaGreatDoorTellA
namespace Go.Proofs.YtkooakadckjpkaaGreatDoor
open Go.RowKit Go.Extern.Stop Go.Stop Go.Extern

/-- the variable errors.errorType holds the handle of the type error -/
def ErrT (w : World) : Prop := w.cell? ⟨0, 0, none⟩ = some (.iface 96 (.agg #[.pointer (some ⟨7, 30, none⟩)]))
theorem ErrT.below {w w' : World} (h : ErrT w) (hb : Below w.heap.size w w') : ErrT w' := (hb.cell (World.block_lt_of_cell? w _ h)).trans h

set_option maxHeartbeats 4000000 in
theorem asA_hit (e t : Addr) (old : Value) (w : World) (hg : ErrT w) (ht0 : w.cell? t = some old) (hf0 : w.frozen? t = false) :
    Calls Tryz.prog 18 #[.iface 45 (.pointer (some e)), .iface 47 (.pointer (some t))] w fun ev w' => ev = .returned (.bool true) ∧ w' = ((((w.alloc (.cells #[.pointer (some t)] 47)).alloc (.cells #[.pointer (some ⟨7, 47, none⟩), .pointer (some ⟨w.heap.size, 0, none⟩), .int .u64 150] 68)).alloc (.cells #[.pointer (some ⟨7, 47, none⟩), .pointer (some ⟨w.heap.size, 0, none⟩), .int .u64 150] 68)).alloc (.cells #[.pointer (some e)] 45)).setCell t (.pointer (some e)) := by
  have h6 := @run_callFunc_extern Tryz.prog 35 _ (fun args => ReflectliteValue.unpack (args.getD 0 (.tuple #[]))) Tryz.func35 (by kernel_rfl) (by kernel_rfl) (by kernel_rfl) (by kernel_rfl)
  have h7 := @run_callFunc_extern Tryz.prog 36 _ (ReflectliteValue.methodAny (ReflectliteValue.valueError "reflectlite.Value.Type" 0) (fun t _ _ _ => ReflectliteType.toType t)) Tryz.func36 (by kernel_rfl) (by kernel_rfl) (by kernel_rfl) (by kernel_rfl)
  have h8 := @run_callFunc_extern Tryz.prog 37 _ (ReflectliteValue.method (ReflectliteValue.valueError "reflectlite.Value.IsNil" 0) ReflectliteValue.isNil) Tryz.func37 (by kernel_rfl) (by kernel_rfl) (by kernel_rfl) (by kernel_rfl)
  have h27 := @run_callFunc_extern Tryz.prog 118 _ (ReflectliteType.abiMethod fun t => do pure (.int .u8 (← Rtype.kind t))) Tryz.func118 (by kernel_rfl) (by kernel_rfl) (by kernel_rfl) (by kernel_rfl)
  have h37 := @run_callFunc_extern Tryz.prog 131 _ (ReflectliteType.method ReflectliteType.elem) Tryz.func131 (by kernel_rfl) (by kernel_rfl) (by kernel_rfl) (by kernel_rfl)
  have h38 := @run_callFunc_extern Tryz.prog 132 _ (ReflectliteType.relation "Implements" ReflectliteType.implements_) Tryz.func132 (by kernel_rfl) (by kernel_rfl) (by kernel_rfl) (by kernel_rfl)
  have h10 := @run_callFunc_extern Tryz.prog 57 _ (ReflectliteType.typeOf) Tryz.func57 (by kernel_rfl) (by kernel_rfl) (by kernel_rfl) (by kernel_rfl)
  have h35 := @run_callFunc_extern Tryz.prog 129 _ (ReflectliteType.relation "AssignableTo" ReflectliteType.assignableTo) Tryz.func129 (by kernel_rfl) (by kernel_rfl) (by kernel_rfl) (by kernel_rfl)
  have h11 := @run_callFunc_extern Tryz.prog 58 _ (ReflectliteValue.method (ReflectliteValue.valueError "reflectlite.Value.Elem" 0) ReflectliteValue.elem) Tryz.func58 (by kernel_rfl) (by kernel_rfl) (by kernel_rfl) (by kernel_rfl)
  have h12 := @run_callFunc_extern Tryz.prog 59 _ (ReflectliteValue.set) Tryz.func59 (by kernel_rfl) (by kernel_rfl) (by kernel_rfl) (by kernel_rfl)
  have tO := aTypeOf
  have mA := methodAssignableTo
  have a25 := aAssignable
  have v25 := aValueOfE
  have f6 := aValueOf
  have f7 := aType
  have mK := methodKind
  have mE := methodElem
  have mI := methodImplements
  have k27 := aKindP
  have k25 := aKind
  have e27 := aElem
  have i25 := aImplements
  have n8 := aIsNil ⟨w.heap.size, 0, none⟩ t ((w.alloc (.cells #[.pointer (some t)] 47)).alloc (.cells #[.pointer (some ⟨7, 47, none⟩), .pointer (some ⟨w.heap.size, 0, none⟩), .int .u64 150] 68)) (by simp)
  unfold ErrT at hg
  have hlt : 0 < w.heap.size := World.block_lt_of_cell? w _ hg
  have hg2 : ((w.alloc (.cells #[.pointer (some t)] 47)).alloc (.cells #[.pointer (some ⟨7, 47, none⟩), .pointer (some ⟨w.heap.size, 0, none⟩), .int .u64 150] 68)).cell? ⟨0, 0, none⟩ = some (.iface 96 (.agg #[.pointer (some ⟨7, 30, none⟩)])) := by
    rw [World.cell?_alloc_lt _ _ ⟨0, 0, none⟩ (by simp <;> omega), World.cell?_alloc_lt _ _ ⟨0, 0, none⟩ hlt]; exact hg
  have htl : t.block < w.heap.size := World.block_lt_of_cell? w _ ht0
  have el := aElemV ⟨w.heap.size, 0, none⟩ t (((w.alloc (.cells #[.pointer (some t)] 47)).alloc (.cells #[.pointer (some ⟨7, 47, none⟩), .pointer (some ⟨w.heap.size, 0, none⟩), .int .u64 150] 68)).alloc (.cells #[.pointer (some ⟨7, 47, none⟩), .pointer (some ⟨w.heap.size, 0, none⟩), .int .u64 150] 68)) (by rw [World.cell?_alloc_lt _ _ ⟨w.heap.size, 0, none⟩ (by simp; omega)]; simp)
  have st := aSet t ⟨w.heap.size + 1 + 1 + 1, 0, none⟩ e old ((((w.alloc (.cells #[.pointer (some t)] 47)).alloc (.cells #[.pointer (some ⟨7, 47, none⟩), .pointer (some ⟨w.heap.size, 0, none⟩), .int .u64 150] 68)).alloc (.cells #[.pointer (some ⟨7, 47, none⟩), .pointer (some ⟨w.heap.size, 0, none⟩), .int .u64 150] 68)).alloc (.cells #[.pointer (some e)] 45))
    (by rw [World.cell?_alloc_at _ _ _ _ (by simp)]; rfl)
    (by rw [World.cell?_alloc_lt _ _ t (by simp; omega), World.cell?_alloc_lt _ _ t (by simp; omega), World.cell?_alloc_lt _ _ t (by simp; omega), World.cell?_alloc_lt _ _ t htl]; exact ht0)
    (by rw [World.frozen?_alloc_old _ _ t (by simp; omega), World.frozen?_alloc_old _ _ t (by simp; omega), World.frozen?_alloc_old _ _ t (by simp; omega), World.frozen?_alloc_old _ _ t (Nat.ne_of_lt htl)]; exact hf0)
  go_enter Tryz.func18, Tryz.ntmps18
  go_wp2
  refine wp_loop_rounds 1 ?_
  rw [rounds_succ]
  go_wp2
  go_ret
  exact ⟨rfl, rfl⟩

set_option maxHeartbeats 4000000 in
theorem asN_hit (n : Int) (t : Addr) (old : Value) (w : World) (hg : ErrT w) (ht0 : w.cell? t = some old) (hf0 : w.frozen? t = false) :
    Calls Tryz.prog 18 #[.iface 23 (.int .i64 n), .iface 50 (.pointer (some t))] w fun ev w' => ev = .returned (.bool true) ∧ w' = ((((w.alloc (.cells #[.pointer (some t)] 50)).alloc (.cells #[.pointer (some ⟨7, 50, none⟩), .pointer (some ⟨w.heap.size, 0, none⟩), .int .u64 150] 68)).alloc (.cells #[.pointer (some ⟨7, 50, none⟩), .pointer (some ⟨w.heap.size, 0, none⟩), .int .u64 150] 68)).alloc (.cells #[.int .i64 n] 23)).setCell t (.int .i64 n) := by
  have h6 := @run_callFunc_extern Tryz.prog 35 _ (fun args => ReflectliteValue.unpack (args.getD 0 (.tuple #[]))) Tryz.func35 (by kernel_rfl) (by kernel_rfl) (by kernel_rfl) (by kernel_rfl)
  have h7 := @run_callFunc_extern Tryz.prog 36 _ (ReflectliteValue.methodAny (ReflectliteValue.valueError "reflectlite.Value.Type" 0) (fun t _ _ _ => ReflectliteType.toType t)) Tryz.func36 (by kernel_rfl) (by kernel_rfl) (by kernel_rfl) (by kernel_rfl)
  have h8 := @run_callFunc_extern Tryz.prog 37 _ (ReflectliteValue.method (ReflectliteValue.valueError "reflectlite.Value.IsNil" 0) ReflectliteValue.isNil) Tryz.func37 (by kernel_rfl) (by kernel_rfl) (by kernel_rfl) (by kernel_rfl)
  have h27 := @run_callFunc_extern Tryz.prog 118 _ (ReflectliteType.abiMethod fun t => do pure (.int .u8 (← Rtype.kind t))) Tryz.func118 (by kernel_rfl) (by kernel_rfl) (by kernel_rfl) (by kernel_rfl)
  have h37 := @run_callFunc_extern Tryz.prog 131 _ (ReflectliteType.method ReflectliteType.elem) Tryz.func131 (by kernel_rfl) (by kernel_rfl) (by kernel_rfl) (by kernel_rfl)
  have h38 := @run_callFunc_extern Tryz.prog 132 _ (ReflectliteType.relation "Implements" ReflectliteType.implements_) Tryz.func132 (by kernel_rfl) (by kernel_rfl) (by kernel_rfl) (by kernel_rfl)
  have h10 := @run_callFunc_extern Tryz.prog 57 _ (ReflectliteType.typeOf) Tryz.func57 (by kernel_rfl) (by kernel_rfl) (by kernel_rfl) (by kernel_rfl)
  have h35 := @run_callFunc_extern Tryz.prog 129 _ (ReflectliteType.relation "AssignableTo" ReflectliteType.assignableTo) Tryz.func129 (by kernel_rfl) (by kernel_rfl) (by kernel_rfl) (by kernel_rfl)
  have h11 := @run_callFunc_extern Tryz.prog 58 _ (ReflectliteValue.method (ReflectliteValue.valueError "reflectlite.Value.Elem" 0) ReflectliteValue.elem) Tryz.func58 (by kernel_rfl) (by kernel_rfl) (by kernel_rfl) (by kernel_rfl)
  have h12 := @run_callFunc_extern Tryz.prog 59 _ (ReflectliteValue.set) Tryz.func59 (by kernel_rfl) (by kernel_rfl) (by kernel_rfl) (by kernel_rfl)
  have tO := aTypeOfN
  have mA := methodAssignableTo
  have a25 := nAssignable
  have v25 := nValueOfE
  have f6 := nValueOf
  have f7 := nType
  have mK := methodKind
  have mE := methodElem
  have mI := methodImplements
  have k27 := nKindP
  have k25 := nKind
  have e27 := nElem
  have i25 := nImplements
  have n8 := nIsNil ⟨w.heap.size, 0, none⟩ t ((w.alloc (.cells #[.pointer (some t)] 50)).alloc (.cells #[.pointer (some ⟨7, 50, none⟩), .pointer (some ⟨w.heap.size, 0, none⟩), .int .u64 150] 68)) (by simp)
  unfold ErrT at hg
  have hlt : 0 < w.heap.size := World.block_lt_of_cell? w _ hg
  have hg2 : ((w.alloc (.cells #[.pointer (some t)] 50)).alloc (.cells #[.pointer (some ⟨7, 50, none⟩), .pointer (some ⟨w.heap.size, 0, none⟩), .int .u64 150] 68)).cell? ⟨0, 0, none⟩ = some (.iface 96 (.agg #[.pointer (some ⟨7, 30, none⟩)])) := by
    rw [World.cell?_alloc_lt _ _ ⟨0, 0, none⟩ (by simp <;> omega), World.cell?_alloc_lt _ _ ⟨0, 0, none⟩ hlt]; exact hg
  have htl : t.block < w.heap.size := World.block_lt_of_cell? w _ ht0
  have el := nElemV ⟨w.heap.size, 0, none⟩ t (((w.alloc (.cells #[.pointer (some t)] 50)).alloc (.cells #[.pointer (some ⟨7, 50, none⟩), .pointer (some ⟨w.heap.size, 0, none⟩), .int .u64 150] 68)).alloc (.cells #[.pointer (some ⟨7, 50, none⟩), .pointer (some ⟨w.heap.size, 0, none⟩), .int .u64 150] 68)) (by rw [World.cell?_alloc_lt _ _ ⟨w.heap.size, 0, none⟩ (by simp; omega)]; simp)
  have st := nSet t ⟨w.heap.size + 1 + 1 + 1, 0, none⟩ n old ((((w.alloc (.cells #[.pointer (some t)] 50)).alloc (.cells #[.pointer (some ⟨7, 50, none⟩), .pointer (some ⟨w.heap.size, 0, none⟩), .int .u64 150] 68)).alloc (.cells #[.pointer (some ⟨7, 50, none⟩), .pointer (some ⟨w.heap.size, 0, none⟩), .int .u64 150] 68)).alloc (.cells #[.int .i64 n] 23))
    (by rw [World.cell?_alloc_at _ _ _ _ (by simp)]; rfl)
    (by rw [World.cell?_alloc_lt _ _ t (by simp; omega), World.cell?_alloc_lt _ _ t (by simp; omega), World.cell?_alloc_lt _ _ t (by simp; omega), World.cell?_alloc_lt _ _ t htl]; exact ht0)
    (by rw [World.frozen?_alloc_old _ _ t (by simp; omega), World.frozen?_alloc_old _ _ t (by simp; omega), World.frozen?_alloc_old _ _ t (by simp; omega), World.frozen?_alloc_old _ _ t (Nat.ne_of_lt htl)]; exact hf0)
  go_enter Tryz.func18, Tryz.ntmps18
  go_wp2
  refine wp_loop_rounds 1 ?_
  rw [rounds_succ]
  go_wp2
  go_ret
  exact ⟨rfl, rfl⟩

end Go.Proofs.YtkooakadckjpkaaGreatDoor
