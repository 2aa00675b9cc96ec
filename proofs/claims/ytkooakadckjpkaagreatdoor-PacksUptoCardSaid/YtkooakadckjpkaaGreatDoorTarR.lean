/-
  The program: an archive's entry, by kinds.
-/
import Derived.Test.YtkooakadckjpkaaGreatDoorTarO
import Derived.Test.YtkooakadckjpkaaGreatDoorTarC
import Derived.Test.YtkooakadckjpkaaGreatDoorTarP
import Derived.Lib.AppendStr
import Derived.Deep.AppendSrc
import Derived.BigRegion
import Derived.Test.YtkooakadckjpkaaGreatDoorBldA
namespace Go.Proofs.YtkooakadckjpkaaGreatDoor
open Go.RowKit

def lenOf : Value → Nat | .slice _ n _ => n | _ => 0
def bytesV (l : List UInt8) : List Value := l.map fun x => Value.int .u8 (x.toNat : Int)
theorem bytesV_len (l : List UInt8) : (bytesV l).length = l.length := by simp [bytesV]
/-- what an entry answers -/
def EntOut (l : List UInt8) (W : World) (e : Ending) (w' : World) : Prop := ∃ A cap, e = .returned (.slice A l.length cap) ∧ Rd w' A (bytesV l) ∧ Below W.heap.size W w'
theorem Hdr.cell {w : World} {g : Nat} {L : List UInt8} (h : Hdr w g L) (i : Nat) (hi : i < 512) : w.cell? ⟨g, i, none⟩ = some (.int .u8 ((L.getD i 0).toNat : Int)) := h.2.cell hi
theorem Hdr.rd {w : World} {g : Nat} {L : List UInt8} (h : Hdr w g L) : Rd w (some ⟨g, 0, none⟩) (bytesV L) := by
  refine .inr ⟨g, 0, rfl, fun i u hu => ?_⟩
  unfold bytesV at hu
  rw [List.getElem?_map] at hu
  cases hl : L[i]? with
  | none => rw [hl] at hu; cases hu
  | some x =>
    rw [hl] at hu
    obtain rfl : Value.int .u8 (x.toNat : Int) = u := Option.some.inj hu
    have hi := (List.getElem?_eq_some_iff.1 hl).1
    rw [h.1] at hi
    rw [Nat.zero_add, h.cell i hi, List.getD_eq_getElem?_getD, hl]; rfl
theorem Hdr.set1 {w : World} {g : Nat} {L : List UInt8} (h : Hdr w g L) (a : Nat) (x : UInt8) (ha : a < 512) : Hdr (w.setCell ⟨g, a, none⟩ (.int .u8 (x.toNat : Int))) g (setB L a [x]) := h.set a [x] (by simp only [List.length_singleton]; omega)
theorem Hdr.new (w : World) (cs : Array Value) (hc : cs = Array.replicate 512 (Value.int .u8 0)) : Hdr (w.alloc (.cells cs 85)) w.heap.size (List.replicate 512 0) := by
  subst hc
  refine ⟨List.length_replicate, ?_⟩
  have := World.rowIs_alloc w (Array.replicate 512 (Value.int .u8 0)) 85 (fun _ => .int .u8 0) (by
      intro i hi; rw [Array.size_replicate] at hi; rw [Array.getElem?_replicate, if_pos hi])
  rw [Array.size_replicate] at this
  refine this.congr fun j hj => ?_
  rw [List.getD_eq_getElem?_getD, List.getElem?_replicate, if_pos hj]; rfl
theorem zeroHdr : Tryz.zeroCells85 = Array.replicate 512 (Value.int .u8 0) := by kernel_rfl

section
variable (w : World) (g : Nat)
theorem whole_any : (Instr.sliceAt 83 (.pointer (some ⟨g, 0, none⟩)) none none none).run Tryz.prog w = .ok (.slice (some ⟨g, 0, none⟩) 512 512) w := by
  have e : Tryz.prog.arrayLen 83 = 512 := by kernel_rfl
  rw [run_sliceAt_array_all (P := Tryz.prog) w 83 ⟨g, 0, none⟩ (by kernel_rfl), e]
  rw [show (sizeOf (Tryz.prog.elem 83)).run Tryz.prog w = .ok 1 w from by kernel_rfl]
  simp only [Result.andThen, slicedAt]
  rw [if_neg (by omega)]
  simp [Addr.add]
theorem index512 (cs : Array Value) (k : Nat) (v : Value) (hk : k < 512) (hv : cs[k]? = some v) :
    (Instr.index 83 (.agg cs) (.int .i64 (k : Int))).run Tryz.prog w = .ok v w := by
  have hn : (0 ≤ (k : Int) ∧ (k : Int) < ((512 : Nat) : Int)) := by omega
  simp [Instr.index, run_underlying Tryz.underlying83, asIntOf, hn, go_sem]
  rw [if_pos hk, hv]; rfl
theorem store_empty : (storeCells ⟨g, 512, none⟩ (List.map (fun b => Value.int IntKind.u8 b.toNat) (S []).data.toList)).run Tryz.prog w = .ok () w := rfl
end

open Go.Lib in
theorem run_append_full {P : Program} (w : World) (base : Nat) (t u ty e : TypeId) (i : TypeInfo) (ht : P.underlying t = some (.slice e)) (hu : P.underlying u = some .string) (hi : P.info? e = some i) (hz : i.zero = some (.int .u8 0))
    (hsize : i.size = 1) (hby : i.bytes = 1) (g n : Nat) (xs : List Value) (hxl : xs.length = n) (holds : ∀ j u, xs[j]? = some u → w.cell? ((⟨g, 0, none⟩ : Addr).add j) = some u) (s : ByteArray) (hs0 : 0 < s.size)
    (hbytes : n + s.size ≤ 4294967290) (hbase : base ≤ w.heap.size) :
    ∃ v' w', (Builtin.append_ #[t, u] ty #[.slice (some ⟨g, 0, none⟩) n n, .string s]).run P w = .ok v' w' ∧ w'.ownsRow base e 1 v' (n + s.size) (xs ++ strCells s) ∧ w.grownBy w' none := by
  have hr := run_append_grow_string (P := P) w t u ty e i (.int .u8 0) ht hu hi hz ⟨g, 0, none⟩ n n xs (by rw [hsize]; simpa using hxl) holds s (by omega) (by omega) (by rw [hby]; exact growslice_fits (by omega) (by omega))
  have hge := grownCap_ge w (n + s.size) n e
  have hcm : grownCap w (n + s.size) n e ≤ maxLen := grownCap_le_maxLen w (n + s.size) n e (by unfold maxLen; omega)
  have hlen : (xs ++ strCells s).length = (n + s.size) * 1 := by rw [List.length_append, hxl, strCells_length, Nat.mul_one]
  refine ⟨_, _, hr, ⟨hlen, .inr ⟨w.heap.size, _, _, rfl, hbase, heap_alloc_new w.drew _, hge, hcm, ?_, ?_⟩⟩, ⟨rfl, rfl, rfl, by simp, fun k hk _ => _root_.Go.heap_alloc_old w.drew _ hk⟩⟩
  · have hz1 : (Value.int IntKind.u8 0).cells.size = 1 := rfl
    simp only [Array.size_append, List.size_toArray, size_zeroCells, hz1, hxl, strCells_length]
    omega
  · simp only [Array.toList_append, List.append_assoc]
    rw [← List.append_assoc, ← hlen]
    exact List.take_left
theorem wpList_append_full {P : Program} {w : World} {ops : Array Oper} {rest : List Oper} {o : Oper} {a : Act} {Q : Exit → Act → World → Prop} (hgd : o.guard = none) (sl x : Operand) (t u : TypeId)
    (ho : o.op = .call { callee := .builtin .append, args := #[sl, x], argTypes := #[t, u] })
    (base : Nat) (e : TypeId) (i : TypeInfo) (ht : P.underlying t = some (.slice e)) (hu : P.underlying u = some .string) (hi : P.info? e = some i) (hz : i.zero = some (.int .u8 0))
    (hsize : i.size = 1) (hby : i.bytes = 1) (g n : Nat) (hs : a.eval sl = .slice (some ⟨g, 0, none⟩) n n) (xs : List Value) (hxl : xs.length = n) (holds : ∀ j u, xs[j]? = some u → w.cell? ((⟨g, 0, none⟩ : Addr).add j) = some u)
    (s : ByteArray) (hx : a.eval x = .string s) (hs0 : 0 < s.size) (hbytes : n + s.size ≤ 4294967290) (hbase : base ≤ w.heap.size)
    (h : ∀ v' w', w'.ownsRow base e 1 v' (n + s.size) (xs ++ Lib.strCells s) → w.grownBy w' none → wpList P ops Q rest (a.put o.dst v') w') : wpList P ops Q (o :: rest) a w := by
  refine wpList_plain hgd fun K hK => ?_
  obtain ⟨v', w', hr, h2, h3⟩ := run_append_full (P := P) w base t u o.type e i ht hu hi hz hsize hby g n xs hxl holds s hs0 hbytes hbase
  unfold Oper.wp execOp
  simp only [ho, resolve, invoke, builtin, Sem.run_bind, Sem.run_pure, Result.andThen_ok, List.map_toArray, List.map_cons, List.map_nil, hs, hx, hr]
  exact hK _ _ (h v' w' h2 h3)
theorem bytesV_app (l m : List UInt8) : bytesV (l ++ m) = bytesV l ++ bytesV m := by simp [bytesV]
theorem strCells_S (l : List UInt8) : Lib.strCells (S l) = bytesV l := rfl
end Go.Proofs.YtkooakadckjpkaaGreatDoor
