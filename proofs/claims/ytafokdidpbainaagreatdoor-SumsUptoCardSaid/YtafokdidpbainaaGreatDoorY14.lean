/-
  The document's answer: a word turned, the table of the words.
-/
import Derived.Deep.RegionWith
import Derived.BigRegion
import Derived.BigQuiet
import Derived.Deep.DeepCutAuto
import Derived.Test.YtafokdidpbainaaGreatDoorY00
set_option linter.unusedVariables false
set_option linter.unusedSimpArgs false
namespace Go.Proofs.YtafokdidpbainaaGreatDoor
open Go.RowKit

theorem i64_small {n : Nat} (h : n < 4294967296) : IntKind.i64.wrap (n : Int) = (n : Int) := by rw [IntKind.wrap_i64] <;> omega
theorem ofInt64 (x : W32) : (BitVec.ofInt 64 (x.toNat : Int)).toNat = x.toNat := by
  have := x.isLt
  rw [BitVec.ofInt_natCast, BitVec.toNat_ofNat]; omega
theorem tn_or64 (x y : W32) : bits .or .i64 (tn x : Int) (tn y : Int) = (tn (x ||| y) : Int) := by
  show IntKind.i64.wrap ((BitVec.ofInt 64 (x.toNat : Int) ||| BitVec.ofInt 64 (y.toNat : Int)).toNat : Int) = _
  rw [BitVec.toNat_or, ofInt64, ofInt64, ← BitVec.toNat_or]
  exact i64_small (x ||| y).isLt
theorem tn_xor64 (x y : W32) : bits .xor .i64 (tn x : Int) (tn y : Int) = (tn (x ^^^ y) : Int) := by
  show IntKind.i64.wrap ((BitVec.ofInt 64 (x.toNat : Int) ^^^ BitVec.ofInt 64 (y.toNat : Int)).toNat : Int) = _
  rw [BitVec.toNat_xor, ofInt64, ofInt64, ← BitVec.toNat_xor]
  exact i64_small (x ^^^ y).isLt
theorem tn_and64 (x y : W32) : bits .and .i64 (tn x : Int) (tn y : Int) = (tn (x &&& y) : Int) := by
  show IntKind.i64.wrap ((BitVec.ofInt 64 (x.toNat : Int) &&& BitVec.ofInt 64 (y.toNat : Int)).toNat : Int) = _
  rw [BitVec.toNat_and, ofInt64, ofInt64, ← BitVec.toNat_and]
  exact i64_small (x &&& y).isLt
theorem tn_shl64 (x : W32) (n : Nat) : Int.tmod ((tn x : Int) * 2 ^ n) 4294967296 = (tn (x <<< n) : Int) := by
  have e : ((tn x : Int) * 2 ^ n) = ((x.toNat * 2 ^ n : Nat) : Int) := by unfold tn; push_cast; rfl
  rw [e, Int.tmod_eq_emod_of_nonneg (Int.natCast_nonneg _)]
  unfold tn
  rw [BitVec.toNat_shiftLeft, Nat.shiftLeft_eq]
  omega
theorem tn_shr64 (x : W32) (n : Nat) : (tn x : Int) / 2 ^ n = (tn (x >>> n) : Int) := u32_shr x n
attribute [go_sem] tn_or64 tn_xor64 tn_and64
set_option maxHeartbeats 1000000 in
theorem turn_any (x : W32) (n : Nat) (h1 : 0 < n) (h2 : n < 32) (w : World) :
    Calls Tryz.prog 87 #[.int .i64 (tn x : Int), .int .i64 (n : Int)] w fun e w' => e = .returned (.int .i64 (tn (rr x n) : Int)) ∧ ∃ m, w' = w.drewN m := by
  obtain ⟨k, hk⟩ : ∃ k : Nat, 32 - n = k := ⟨_, rfl⟩
  have hw : IntKind.i64.wrap (32 - (n : Int)) = (k : Int) := by rw [IntKind.wrap_i64] <;> omega
  have hk0 : (0 : Int) ≤ (k : Int) := by omega
  have hk1 : (k : Int) ≤ 64 := by omega
  have hn0 : (0 : Int) ≤ (n : Int) := by omega
  have hn1 : (n : Int) ≤ 64 := by omega
  have hn2 : ¬ (n : Int) < 0 := by omega
  have hk2 : ¬ (k : Int) < 0 := by omega
  have hb : IntKind.i64.wrap ((tn x : Int) * 2 ^ k) = (tn x : Int) * 2 ^ k := by
    have hx := tn_lt x
    have hp : (2 : Nat) ^ k ≤ 2 ^ 31 := Nat.pow_le_pow_right (by decide) (by omega)
    have e : ((tn x : Int) * 2 ^ k) = ((tn x * 2 ^ k : Nat) : Int) := by push_cast; rfl
    have hm : tn x * 2 ^ k < 4294967296 * 2147483648 := Nat.lt_of_lt_of_le (Nat.mul_lt_mul_of_pos_right hx (Nat.pow_pos (by decide))) (Nat.mul_le_mul_left _ hp)
    rw [e, IntKind.wrap_i64] <;> omega
  have HS := Lib.hid (tn_shl64 x k)
  have HK := Lib.hid hk
  clear hk
  go_enter Tryz.func87, Tryz.ntmps87
  go_upto_region 1 with fail
  go_quiet (fail)
  go_wp2
  go_ret
  refine ⟨?_, _, rfl⟩
  show Ending.returned (Value.int .i64 (bits .or .i64 ((tn x : Int) / 2 ^ n) (((tn x : Int) * 2 ^ k).tmod 4294967296))) = _
  rw [HS.out, tn_shr64, tn_or64, BitVec.or_comm, rr, HK.out]
theorem u32s_keys : keysW.length = 64 := rfl
/-- words as the document's numbers -/
def i64s (l : List W32) : List Value := l.map fun x => .int .i64 (tn x : Int)
theorem i64s_len (l : List W32) : (i64s l).length = l.length := by simp [i64s]
theorem i64s_get (l : List W32) (i : Nat) (h : i < l.length) : (i64s l)[i]? = some (.int .i64 (tn l[i] : Int)) := by
  unfold i64s; rw [List.getElem?_map, List.getElem?_eq_getElem h]; rfl
theorem rd_allocR (w : World) (cs : List Value) (t : TypeId) : Rd (w.alloc (.cells cs.toArray t)) (some ⟨w.heap.size, 0, none⟩) cs := by
  refine .inr ⟨_, 0, rfl, fun i u hu => ?_⟩
  rw [cell_of_row _ _ _ _ _ _ (Go.heap_alloc_new w _)]
  simpa using hu
set_option maxRecDepth 100000 in
set_option maxHeartbeats 1000000 in
theorem keys_any (w : World) :
    Calls Tryz.prog 86 #[] w fun e w' => ∃ A, e = .returned (.slice A 64 64) ∧ Rd w' A (i64s keysW) ∧ Below w.heap.size w w' := by
  go_enter Tryz.func86, Tryz.ntmps86
  go_wp2
  go_ret
  exact ⟨_, rfl, rd_allocR w (i64s keysW) _, (Below.refl _ _).alloc (Nat.le_refl _) _⟩
end Go.Proofs.YtafokdidpbainaaGreatDoor
