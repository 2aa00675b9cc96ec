/-
  The program: sixty-four bytes more.
-/
import Derived.Deep.DeepCutAuto
import Derived.Laws.CopyRow
import Derived.Laws.CopyOwn
import Derived.Test.YtkdplkhnkimhpaaGreatDoorY00
import Derived.Test.YtkdplkhnkimhpaaGreatDoorY07
set_option linter.unusedVariables false
set_option linter.unusedSimpArgs false
namespace Go.Proofs.YtkdplkhnkimhpaaGreatDoor
open Go.RowKit

abbrev U (x : W32) : Value := .int .u32 (tn x : Int)
def u8s (b : List UInt8) : List Value := b.map fun x => .int .u8 (x.toNat : Int)
theorem u8s_len (b : List UInt8) : (u8s b).length = b.length := by simp [u8s]
theorem u8s_get (b : List UInt8) (i : Nat) (h : i < b.length) : (u8s b)[i]? = some (.int .u8 ((b[i]).toNat : Int)) := by
  unfold u8s; rw [List.getElem?_map, List.getElem?_eq_getElem h]; rfl
def Blk8 (w : World) (g : Nat) (s : St8) : Prop := w.heap[g]? = some (.cells #[U s.a, U s.b, U s.c, U s.d, U s.e, U s.f, U s.g, U s.h] 165 (0, 0))
theorem Blk8.lt {w : World} {g : Nat} {s : St8} (h : Blk8 w g s) : g < w.heap.size := (Array.getElem?_eq_some_iff.1 h).1
theorem Blk8.below {w w' : World} {g : Nat} {s : St8} (h : Blk8 w g s) (hb : Below w.heap.size w w') : Blk8 w' g s := (hb.block g h.lt).trans h
theorem Blk8.cells {w : World} {g : Nat} {s : St8} (h : Blk8 w g s) : w.cell? ⟨g, 0, none⟩ = some (U s.a) ∧ w.cell? ⟨g, 1, none⟩ = some (U s.b) ∧ w.cell? ⟨g, 2, none⟩ = some (U s.c) ∧ w.cell? ⟨g, 3, none⟩ = some (U s.d) ∧ w.cell? ⟨g, 4, none⟩ = some (U s.e) ∧ w.cell? ⟨g, 5, none⟩ = some (U s.f) ∧ w.cell? ⟨g, 6, none⟩ = some (U s.g) ∧ w.cell? ⟨g, 7, none⟩ = some (U s.h) := by
  refine ⟨?_, ?_, ?_, ?_, ?_, ?_, ?_, ?_⟩ <;> rw [cell_of_row _ _ _ _ _ _ h] <;> rfl
theorem Blk8.frozen {w : World} {g : Nat} {s : St8} (h : Blk8 w g s) (j : Nat) : w.frozen? ⟨g, j, none⟩ = false := frozen_of_row w g j _ _ h
theorem Blk8.grown {w w' : World} {g : Nat} {s : St8} {row : Option Nat} (h : Blk8 w g s) (hg : w.grownBy w' row) (hne : some g ≠ row) : Blk8 w' g s := (hg.block g h.lt hne).trans h
theorem Blk8.new (w : World) (s : St8) : Blk8 (w.alloc (.cells #[U s.a, U s.b, U s.c, U s.d, U s.e, U s.f, U s.g, U s.h] 165)) w.heap.size s := heap_alloc_new w _
theorem below_drew2 {B : Nat} {a w : World} (h : Below B a w) : Below B a w.drew := ⟨h.os, h.tape, h.output, h.size, h.block⟩
def St8.at (s : St8) : Nat → W32
  | 0 => s.a
  | 1 => s.b
  | 2 => s.c
  | 3 => s.d
  | 4 => s.e
  | 5 => s.f
  | 6 => s.g
  | 7 => s.h
  | _ => 0
theorem Blk8.row {w : World} {g : Nat} {s : St8} (h : Blk8 w g s) : w.rowIs g 165 8 (fun j => .int .u32 ((tn (s.at j) : Nat) : Int)) := by
  refine ⟨_, h, rfl, fun i hi => ?_⟩
  match i, hi with
  | 0, _ => rfl
  | 1, _ => rfl
  | 2, _ => rfl
  | 3, _ => rfl
  | 4, _ => rfl
  | 5, _ => rfl
  | 6, _ => rfl
  | 7, _ => rfl
theorem blk_row {w : World} {g : Nat} {s : St8} (h : w.rowIs g 165 8 (fun j => .int .u32 ((tn (s.at j) : Nat) : Int))) : Blk8 w g s := by
  obtain ⟨cur, h1, h2, h3⟩ := h
  have e : cur = #[U s.a, U s.b, U s.c, U s.d, U s.e, U s.f, U s.g, U s.h] := by
    apply Array.ext_getElem?
    intro i
    by_cases hi : i < 8
    · rw [h3 i hi]
      match i, hi with
      | 0, _ => rfl
      | 1, _ => rfl
      | 2, _ => rfl
      | 3, _ => rfl
      | 4, _ => rfl
      | 5, _ => rfl
      | 6, _ => rfl
      | 7, _ => rfl
    · rw [Array.getElem?_eq_none (by omega), Array.getElem?_eq_none (by simp; omega)]
  rw [e] at h1
  exact h1
theorem grown_of_below {w w' : World} {g : Nat} (h : Below w.heap.size w w') : w.grownBy w' (some g) := ⟨h.os, h.tape, h.output, h.size, fun i hi _ => h.block i hi⟩
theorem grown_set {w w' : World} {g : Nat} (h : w.grownBy w' (some g)) (o : Nat) (v : Value) : w.grownBy (w'.setCell ⟨g, o, none⟩ v) (some g) :=
  ⟨h.os, h.tape, h.output, by have := h.size; simpa [World.setCell] using this, fun i hi hne => (heap_setCell_other w' ⟨g, o, none⟩ i v (fun e => hne (by rw [e]))).trans (h.block i hi hne)⟩
theorem grown_drew2 {w w' : World} {r : Option Nat} (h : w.grownBy w' r) : w.grownBy w'.drew r := ⟨h.os, h.tape, h.output, h.size, h.block⟩
theorem slice8_l {wr : World} {g : Nat} {s : St8} (_ : Blk8 wr g s) : ∀ w : World, (Instr.sliceAt 165 (.pointer (some ⟨g, 0, none⟩)) (some (.int .i64 1)) none none).run Tryz.prog w = .ok (.slice (some ⟨g, 1, none⟩) 7 7) w := by
  intro w
  have e : Tryz.prog.arrayLen 165 = 8 := by kernel_rfl
  rw [run_sliceAt_array_l (P := Tryz.prog) w 165 ⟨g, 0, none⟩ (by kernel_rfl) .i64 1 (by decide) (by rw [e]; decide), e]
  rw [show (sizeOf (Tryz.prog.elem 165)).run Tryz.prog w = .ok 1 w from by kernel_rfl]
  rfl
theorem slice8_h {wr : World} {g : Nat} {s : St8} (_ : Blk8 wr g s) : ∀ w : World, (Instr.sliceAt 165 (.pointer (some ⟨g, 0, none⟩)) none (some (.int .i64 7)) none).run Tryz.prog w = .ok (.slice (some ⟨g, 0, none⟩) 7 8) w := by
  intro w
  have e : Tryz.prog.arrayLen 165 = 8 := by kernel_rfl
  rw [run_sliceAt_array_h (P := Tryz.prog) w 165 ⟨g, 0, none⟩ (by kernel_rfl) .i64 7 (by decide) (by rw [e]; decide), e]
  rw [show (sizeOf (Tryz.prog.elem 165)).run Tryz.prog w = .ok 1 w from by kernel_rfl]
  rfl
/-- eight words moved on by one place -/
theorem copy8 {w : World} {g : Nat} {s : St8} (h : Blk8 w g s) : ∃ w', (Builtin.copy_ #[196, 196] 3 #[.slice (some ⟨g, 1, none⟩) 7 7, .slice (some ⟨g, 0, none⟩) 7 8]).run Tryz.prog w.drew = .ok (goInt 7) w' ∧ Blk8 w' g ⟨s.a, s.a, s.b, s.c, s.d, s.e, s.f, s.g⟩ ∧ ∀ B, B ≤ g → Below B w w' := by
  have hd : Blk8 w.drew g s := h
  obtain ⟨v0, v1, v2, v3, v4, v5, v6, v7⟩ := hd.cells
  have hc := run_copy_row (P := Tryz.prog) w.drew 196 196 3 164 g 1 7 7 ⟨g, 0, none⟩ 7 8 _ _ [U s.a, U s.b, U s.c, U s.d, U s.e, U s.f, U s.g] Tryz.underlying196 (by kernel_rfl) hd rfl (by
    intro j v hj
    match j, hj with
    | 0, hj => simp at hj; subst hj; exact v0
    | 1, hj => simp at hj; subst hj; exact v1
    | 2, hj => simp at hj; subst hj; exact v2
    | 3, hj => simp at hj; subst hj; exact v3
    | 4, hj => simp at hj; subst hj; exact v4
    | 5, hj => simp at hj; subst hj; exact v5
    | 6, hj => simp at hj; subst hj; exact v6) (by simp) (by simp [Value.oneCell'])
  refine ⟨_, hc, ?_, fun B hB => ?_⟩
  · exact setRow_heap _ _ _ _ _ _ hd
  · exact below_setRow (below_drew2 (Below.refl B w)) hB _
theorem Blk8.set04 {w : World} {g : Nat} {s : St8} (h : Blk8 w g s) (x y : W32) : Blk8 ((w.setCell ⟨g, 0, none⟩ (U x)).setCell ⟨g, 4, none⟩ (U y)) g ⟨x, s.b, s.c, s.d, y, s.f, s.g, s.h⟩ := by
  have h1 := Go.heap_setCell_same w g 0 _ _ (U x) h
  have h2 := Go.heap_setCell_same _ g 4 _ _ (U y) h1
  exact h2
/-- the table of the words -/
def Keys (w : World) : Prop := ∀ k, k < 64 → w.cell? ⟨2, k, none⟩ = some (.int .u32 ((tn (keysW.getD k 0) : Nat) : Int))
theorem Keys.below {w w' : World} (h : Keys w) (hb : Below w.heap.size w w') : Keys w' := fun k hk => (hb.cell (World.block_lt_of_cell? w _ (h k hk))).trans (h k hk)
/-- a row of sixty-four words -/
def RowW (w : World) (g : Nat) (f : Nat → W32) : Prop := w.rowIs g 194 64 (fun j => .int .u32 ((tn (f j) : Nat) : Int))
theorem rowW_zero (w : World) (b : List UInt8) : RowW (w.alloc (.cells (Array.replicate 64 (.int .u32 0)) 194)) w.heap.size (fun j => (schL b 0).getD j 0) := by
  have h := World.rowIs_alloc w (Array.replicate 64 (.int .u32 0)) 194 (fun j => .int .u32 ((tn ((schL b 0).getD j 0) : Nat) : Int)) (by
    intro i hi
    have hi2 : i < 64 := by simpa using hi
    simp [hi2, schL, tn])
  rw [Array.size_replicate] at h
  exact h
theorem RowW.next {w : World} {g n : Nat} {b : List UInt8} {v : Int} (h : RowW w g (fun j => (schL b n).getD j 0)) (hv : v = (tn (nxtW b (schL b n) n) : Int)) : RowW (w.setCell ⟨g, n, none⟩ (.int .u32 v)) g (fun j => (schL b (n + 1)).getD j 0) := by
  refine (World.rowIs.set h n (.int .u32 v)).congr fun j hj => ?_
  show (if j = n then Value.int .u32 v else Value.int .u32 ((tn ((schL b n).getD j 0) : Nat) : Int)) = Value.int .u32 ((tn ((schL b (n + 1)).getD j 0) : Nat) : Int)
  rw [schL_get]
  by_cases hjn : j = n
  · rw [if_pos hjn, if_pos hjn, hv]
  · rw [if_neg hjn, if_neg hjn]
theorem be_cells {b : List UInt8} {n m : Nat} (hm : m = 4 * n) (h : m + 3 < b.length) : be b n = BitVec.ofNat 32 ((((b[m]).toNat * 256 + (b[m + 1]).toNat) * 256 + (b[m + 2]).toNat) * 256 + (b[m + 3]).toNat) := by
  subst hm
  unfold be beN
  simp [List.getD_eq_getElem?_getD, List.getElem?_eq_getElem, h, show 4 * n < b.length by omega, show 4 * n + 1 < b.length by omega, show 4 * n + 2 < b.length by omega]
theorem or_shift (a b i : Nat) (h : b < 2 ^ i) : a * 2 ^ i ||| b = a * 2 ^ i + b := by
  rw [← Nat.shiftLeft_eq, Nat.shiftLeft_add_eq_or_of_lt h]
theorem be_or (y0 y1 y2 y3 : UInt8) : bits .or .u32 (bits .or .u32 (bits .or .u32 (IntKind.u32.wrap (IntKind.u32.wrap (y0.toNat : Int) * 16777216)) (IntKind.u32.wrap (IntKind.u32.wrap (y1.toNat : Int) * 65536))) (IntKind.u32.wrap (IntKind.u32.wrap (y2.toNat : Int) * 256))) (IntKind.u32.wrap (y3.toNat : Int)) = ((BitVec.ofNat 32 (((y0.toNat * 256 + y1.toNat) * 256 + y2.toNat) * 256 + y3.toNat)).toNat : Int) := by
  have h0 := y0.toNat_lt
  have h1 := y1.toNat_lt
  have h2 := y2.toNat_lt
  have h3 := y3.toNat_lt
  generalize y0.toNat = a at *
  generalize y1.toNat = b at *
  generalize y2.toNat = c at *
  generalize y3.toNat = d at *
  have e0 : IntKind.u32.wrap (IntKind.u32.wrap (a : Int) * 16777216) = ((BitVec.ofNat 32 (a * 16777216)).toNat : Int) := by
    rw [IntKind.wrap_u32', IntKind.wrap_u32', BitVec.toNat_ofNat]; omega
  have e1 : IntKind.u32.wrap (IntKind.u32.wrap (b : Int) * 65536) = ((BitVec.ofNat 32 (b * 65536)).toNat : Int) := by
    rw [IntKind.wrap_u32', IntKind.wrap_u32', BitVec.toNat_ofNat]; omega
  have e2 : IntKind.u32.wrap (IntKind.u32.wrap (c : Int) * 256) = ((BitVec.ofNat 32 (c * 256)).toNat : Int) := by
    rw [IntKind.wrap_u32', IntKind.wrap_u32', BitVec.toNat_ofNat]; omega
  have e3 : IntKind.u32.wrap (d : Int) = ((BitVec.ofNat 32 d).toNat : Int) := by
    rw [IntKind.wrap_u32', BitVec.toNat_ofNat]; omega
  rw [e0, e1, e2, e3, u32_or, u32_or, u32_or]
  congr 1
  simp only [BitVec.toNat_or, BitVec.toNat_ofNat]
  rw [Nat.mod_eq_of_lt (by omega : a * 16777216 < 2 ^ 32), Nat.mod_eq_of_lt (by omega : b * 65536 < 2 ^ 32), Nat.mod_eq_of_lt (by omega : c * 256 < 2 ^ 32), Nat.mod_eq_of_lt (by omega : d < 2 ^ 32), Nat.mod_eq_of_lt (by omega : ((a * 256 + b) * 256 + c) * 256 + d < 2 ^ 32)]
  have s1 := or_shift a (b * 65536) 24 (by omega)
  have s2 := or_shift (a * 256 + b) (c * 256) 16 (by omega)
  have s3 := or_shift ((a * 256 + b) * 256 + c) d 8 (by omega)
  rw [show a * 2 ^ 24 = a * 16777216 by omega] at s1
  rw [s1, show a * 16777216 + b * 65536 = (a * 256 + b) * 2 ^ 16 by omega, s2, show (a * 256 + b) * 2 ^ 16 + c * 256 = ((a * 256 + b) * 256 + c) * 2 ^ 8 by omega, s3]
theorem be_orM (y0 y1 y2 y3 : UInt8) : bits .or .u32 (bits .or .u32 (bits .or .u32 ((y0.toNat : Int) % 4294967296 * 16777216 % 4294967296) ((y1.toNat : Int) % 4294967296 * 65536 % 4294967296)) ((y2.toNat : Int) % 4294967296 * 256 % 4294967296)) ((y3.toNat : Int) % 4294967296) = (tn (BitVec.ofNat 32 (((y0.toNat * 256 + y1.toNat) * 256 + y2.toNat) * 256 + y3.toNat)) : Int) := by
  have h := be_or y0 y1 y2 y3
  simp only [IntKind.wrap_u32'] at h
  exact h
set_option maxRecDepth 100000 in
set_option maxHeartbeats 4000000 in
theorem block_any (hb : Nat) (s : St8) (b : List UInt8) (A : Option Addr) (cap : Nat) (w : World) (hh : Blk8 w hb s) (hr : Rd w A (u8s b)) (hl : 64 ≤ b.length) (hl2 : b.length ≤ 4000000000) (hk : Keys w) :
    Calls Tryz.prog 85 #[.pointer (some ⟨hb, 0, none⟩), .slice A b.length cap] w fun e w' => e = .returned (.tuple #[]) ∧ Blk8 w' hb (blockW keysW s b) ∧ w.grownBy w' (some hb) := by
  have HR := Lib.hid hr
  have HH := Lib.hid hh
  have HK := Lib.hid hk
  clear hr hh hk
  go_enter Tryz.func85, Tryz.ntmps85
  go_wp2
  have HW0 := Lib.hid (rowW_zero w b)
  have HB0 : Hid (Below w.heap.size w (w.alloc (.cells (Array.replicate 64 (.int .u32 0)) 194))) := Lib.hid ((Below.refl _ _).alloc (Nat.le_refl _) _)
  rw [show (#[Value.int .u32 0, Value.int .u32 0, Value.int .u32 0, Value.int .u32 0, Value.int .u32 0, Value.int .u32 0, Value.int .u32 0, Value.int .u32 0, Value.int .u32 0, Value.int .u32 0, Value.int .u32 0, Value.int .u32 0, Value.int .u32 0, Value.int .u32 0, Value.int .u32 0, Value.int .u32 0, Value.int .u32 0, Value.int .u32 0, Value.int .u32 0, Value.int .u32 0, Value.int .u32 0, Value.int .u32 0, Value.int .u32 0, Value.int .u32 0, Value.int .u32 0, Value.int .u32 0, Value.int .u32 0, Value.int .u32 0, Value.int .u32 0, Value.int .u32 0, Value.int .u32 0, Value.int .u32 0, Value.int .u32 0, Value.int .u32 0, Value.int .u32 0, Value.int .u32 0, Value.int .u32 0, Value.int .u32 0, Value.int .u32 0, Value.int .u32 0, Value.int .u32 0, Value.int .u32 0, Value.int .u32 0, Value.int .u32 0, Value.int .u32 0, Value.int .u32 0, Value.int .u32 0, Value.int .u32 0, Value.int .u32 0, Value.int .u32 0, Value.int .u32 0, Value.int .u32 0, Value.int .u32 0, Value.int .u32 0, Value.int .u32 0, Value.int .u32 0, Value.int .u32 0, Value.int .u32 0, Value.int .u32 0, Value.int .u32 0, Value.int .u32 0, Value.int .u32 0, Value.int .u32 0, Value.int .u32 0] : Array Value) = Array.replicate 64 (.int .u32 0) from rfl]
  generalize hw0 : w.alloc (.cells (Array.replicate 64 (.int .u32 0)) 194) = w0 at HW0 HB0 ⊢
  clear hw0
  go_loopw [20] (fun i wr => ∃ n : Nat, n ≤ 16 ∧ i = .int .i64 n ∧ Hid (RowW wr w.heap.size (fun j => (schL b n).getD j 0)) ∧ Hid (Below w.heap.size w wr)) (fun i _ => 16 - (intOf i).toNat)
  case atStart => exact ⟨0, by omega, rfl, HW0, HB0⟩
  case round =>
    obtain ⟨n, hn, rfl, HW, HB⟩ := hrel
    by_cases hlt : n < 16
    · obtain ⟨m, hm⟩ : ∃ m : Nat, m = 4 * n := ⟨_, rfl⟩
      have hwm : IntKind.i64.wrap (4 * (n : Int)) = (m : Int) := by rw [IntKind.wrap_i64] <;> omega
      have HM := Lib.hid hm
      obtain ⟨k1, hk1⟩ : ∃ k : Nat, m + 1 = k := ⟨_, rfl⟩
      obtain ⟨k2, hk2⟩ : ∃ k : Nat, m + 2 = k := ⟨_, rfl⟩
      obtain ⟨k3, hk3⟩ : ∃ k : Nat, m + 3 = k := ⟨_, rfl⟩
      have hmb : m + 3 < b.length := by omega
      obtain ⟨bb, ob, hAe, hbb, hc⟩ := HR.out.at m (by rw [u8s_len]; omega)
      subst hAe
      have c0 := (HB.out.cell (p := ⟨bb, ob + m, none⟩) hbb).trans (hc _ _ (u8s_get b m (by omega)))
      have c1 := (HB.out.cell (p := ⟨bb, ob + (m + 1), none⟩) hbb).trans (hc _ _ (u8s_get b (m + 1) (by omega)))
      have c2 := (HB.out.cell (p := ⟨bb, ob + (m + 2), none⟩) hbb).trans (hc _ _ (u8s_get b (m + 2) (by omega)))
      have c3 := (HB.out.cell (p := ⟨bb, ob + (m + 3), none⟩) hbb).trans (hc _ _ (u8s_get b (m + 3) (by omega)))
      have HE := Lib.hid (be_cells (b := b) (n := n) (m := m) hm hmb)
      simp only [hk1, hk2, hk3] at c1 c2 c3 HE
      generalize b[m] = y0 at c0 HE
      generalize b[k1] = y1 at c1 HE
      generalize b[k2] = y2 at c2 HE
      generalize b[k3] = y3 at c3 HE
      have x1 : IntKind.i64.wrap ((m : Int) + 1) = (k1 : Int) := by rw [IntKind.wrap_i64] <;> omega
      have x2 : IntKind.i64.wrap ((m : Int) + 2) = (k2 : Int) := by rw [IntKind.wrap_i64] <;> omega
      have x3 : IntKind.i64.wrap ((m : Int) + 3) = (k3 : Int) := by rw [IntKind.wrap_i64] <;> omega
      have i0 : (m : Int) < (b.length : Int) := by omega
      have i1 : (k1 : Int) < (b.length : Int) := by omega
      have i2 : (k2 : Int) < (b.length : Int) := by omega
      have i3 : (k3 : Int) < (b.length : Int) := by omega
      have ia : (n : Int) < (Tryz.prog.arrayLen 194 : Int) := by rw [show Tryz.prog.arrayLen 194 = 64 from by kernel_rfl]; omega
      have ia2 : (n : Int) < 64 := by omega
      have hcw := HW.out.cell (i := n) (by omega)
      have hfw := HW.out.frozen n
      clear hc hm hmb hk1 hk2 hk3
      go_upto_region 4 with fail
      go_still_tail 35, (by kernel_rfl)
      go_wp2
      go_roundw
      case rel => exact ⟨n + 1, by omega, by go_num, Lib.hid (HW.out.next (by rw [nxtW, if_pos hlt, HE.out, be_orM])), Lib.hid (below_drew2 (HB.out.setCell (p := ⟨w.heap.size, n, none⟩) (Nat.le_refl _) _))⟩
      case measure => simp [intOf]; omega
    · obtain rfl : n = 16 := by omega
      clear HW0 HB0
      go_wp2
      rw [show (((16 : Nat) : Nat) : Int) = 16 from rfl]
      go_loopw [6] (fun i wr => ∃ n : Nat, Hid (16 ≤ n ∧ n ≤ 64) ∧ i = .int .i64 n ∧ Hid (RowW wr w.heap.size (fun j => (schL b n).getD j 0)) ∧ Hid (Below w.heap.size w wr)) (fun i _ => 64 - (intOf i).toNat)
      case atStart => exact ⟨16, Lib.hid ⟨by omega, by omega⟩, rfl, HW, HB⟩
      case round =>
        clear HW HB hlt hn
        obtain ⟨n, hnn, rfl, HW, HB⟩ := hrel
        obtain ⟨hn16, hn⟩ := hnn.out
        by_cases hlt : n < 64
        · obtain ⟨k15, h15⟩ : ∃ k : Nat, k = n - 15 := ⟨_, rfl⟩
          obtain ⟨k2, h2⟩ : ∃ k : Nat, k = n - 2 := ⟨_, rfl⟩
          obtain ⟨k16, h16⟩ : ∃ k : Nat, k = n - 16 := ⟨_, rfl⟩
          obtain ⟨k7, h7⟩ : ∃ k : Nat, k = n - 7 := ⟨_, rfl⟩
          have x15 : IntKind.i64.wrap ((n : Int) - 15) = (k15 : Int) := by rw [IntKind.wrap_i64] <;> omega
          have x2 : IntKind.i64.wrap ((n : Int) - 2) = (k2 : Int) := by rw [IntKind.wrap_i64] <;> omega
          have x16 : IntKind.i64.wrap ((n : Int) - 16) = (k16 : Int) := by rw [IntKind.wrap_i64] <;> omega
          have x7 : IntKind.i64.wrap ((n : Int) - 7) = (k7 : Int) := by rw [IntKind.wrap_i64] <;> omega
          have y15 : (n : Int) - 15 = (k15 : Int) := by omega
          have y2 : (n : Int) - 2 = (k2 : Int) := by omega
          have y16 : (n : Int) - 16 = (k16 : Int) := by omega
          have y7 : (n : Int) - 7 = (k7 : Int) := by omega
          have z16 : IntKind.i64.wrap (k16 : Int) = (k16 : Int) := by rw [IntKind.wrap_i64] <;> omega
          have z7 : IntKind.i64.wrap (k7 : Int) = (k7 : Int) := by rw [IntKind.wrap_i64] <;> omega
          have i15 : (k15 : Int) < 64 := by omega
          have i2 : (k2 : Int) < 64 := by omega
          have i16 : (k16 : Int) < 64 := by omega
          have i7 : (k7 : Int) < 64 := by omega
          have ia2 : (n : Int) < 64 := by omega
          have c15 := HW.out.cell (i := k15) (by omega)
          have c2 := HW.out.cell (i := k2) (by omega)
          have c16 := HW.out.cell (i := k16) (by omega)
          have c7 := HW.out.cell (i := k7) (by omega)
          have hcw := HW.out.cell (i := n) (by omega)
          have hfw := HW.out.frozen n
          have HN := Lib.hid (show nxtW b (schL b n) n = (schL b n).getD k16 0 + sg0 ((schL b n).getD k15 0) + (schL b n).getD k7 0 + sg1 ((schL b n).getD k2 0) by rw [nxtW, if_neg (by omega), h15, h2, h16, h7])
          replace c15 : wr.cell? ⟨w.heap.size, k15, none⟩ = some (.int .u32 ((tn ((schL b n).getD k15 0) : Nat) : Int)) := c15
          replace c2 : wr.cell? ⟨w.heap.size, k2, none⟩ = some (.int .u32 ((tn ((schL b n).getD k2 0) : Nat) : Int)) := c2
          replace c16 : wr.cell? ⟨w.heap.size, k16, none⟩ = some (.int .u32 ((tn ((schL b n).getD k16 0) : Nat) : Int)) := c16
          replace c7 : wr.cell? ⟨w.heap.size, k7, none⟩ = some (.int .u32 ((tn ((schL b n).getD k7 0) : Nat) : Int)) := c7
          generalize (schL b n).getD k15 0 = w15 at c15 HN
          generalize (schL b n).getD k2 0 = w2 at c2 HN
          generalize (schL b n).getD k16 0 = w16 at c16 HN
          generalize (schL b n).getD k7 0 = w7 at c7 HN
          clear h15 h2 h16 h7
          have R7 := Lib.hid (show ∀ W : World, Calls Tryz.prog 114 #[.int .u32 (tn w15 : Int), .int .i64 (-7)] W (fun e w' => e = .returned (.int .u32 (tn (rr w15 7) : Int)) ∧ W = w') from fun W => rot_any w15 7 (by decide) (by decide) W)
          have R18 := Lib.hid (show ∀ W : World, Calls Tryz.prog 114 #[.int .u32 (tn w15 : Int), .int .i64 (-18)] W (fun e w' => e = .returned (.int .u32 (tn (rr w15 18) : Int)) ∧ W = w') from fun W => rot_any w15 18 (by decide) (by decide) W)
          have R17 := Lib.hid (show ∀ W : World, Calls Tryz.prog 114 #[.int .u32 (tn w2 : Int), .int .i64 (-17)] W (fun e w' => e = .returned (.int .u32 (tn (rr w2 17) : Int)) ∧ W = w') from fun W => rot_any w2 17 (by decide) (by decide) W)
          have R19 := Lib.hid (show ∀ W : World, Calls Tryz.prog 114 #[.int .u32 (tn w2 : Int), .int .i64 (-19)] W (fun e w' => e = .returned (.int .u32 (tn (rr w2 19) : Int)) ∧ W = w') from fun W => rot_any w2 19 (by decide) (by decide) W)
          go_upto_region 9 with fail
          go_quiet (fail)
          generalize hD : World.drewN wr _ = wd
          have eD : World.cell? wr = World.cell? wd := by rw [← hD]; rfl
          have fD : World.frozen? wr = World.frozen? wd := by rw [← hD]; rfl
          have HW5 := Lib.hid (show RowW wd w.heap.size (fun j => (schL b n).getD j 0) by rw [← hD]; exact HW.out)
          have HB5 := Lib.hid (show Below w.heap.size w wd by rw [← hD]; exact ⟨HB.out.os, HB.out.tape, HB.out.output, HB.out.size, HB.out.block⟩)
          rw [eD] at c16 c7 hcw
          rw [fD] at hfw
          clear c15 c2 hD eD fD HW HB
          go_wp2_with fail
          refine (R7.out _).mono ?_
          rintro e w3 ⟨rfl, rfl⟩
          go_wp2_with fail
          refine (R18.out _).mono ?_
          rintro e w3 ⟨rfl, rfl⟩
          go_wp2_with fail
          refine (R17.out _).mono ?_
          rintro e w3 ⟨rfl, rfl⟩
          go_wp2_with fail
          refine (R19.out _).mono ?_
          rintro e w3 ⟨rfl, rfl⟩
          go_upto_region 12 with fail
          go_still_tail 15, (by kernel_rfl)
          go_wp2
          go_roundw
          case rel => exact ⟨n + 1, Lib.hid ⟨by omega, by omega⟩, by go_num, Lib.hid (HW5.out.next (by rw [HN.out]; (try rw [tn_shr3, tn_shr10, tn_xor, tn_xor, tn_sum4]); rfl)), Lib.hid (below_drew2 (HB5.out.setCell (p := ⟨w.heap.size, n, none⟩) (Nat.le_refl _) _))⟩
          case measure => simp [intOf]; omega
        · obtain rfl : n = 64 := by omega
          have hhr : Blk8 wr hb s := HH.out.below HB.out
          obtain ⟨h0, h1, h2, h3, h4, h5, h6, h7⟩ := hhr.cells
          have hlt8 := HH.out.lt
          go_upto_region 14 with fail
          have HV := Lib.hid (Blk8.new wr s)
          have hb3 : Below wr.heap.size wr (wr.alloc (.cells #[U s.a, U s.b, U s.c, U s.d, U s.e, U s.f, U s.g, U s.h] 165)) := (Below.refl _ _).alloc (Nat.le_refl _) _
          have HB3 := Lib.hid hb3
          clear hb3 h0 h1 h2 h3 h4 h5 h6 h7
          generalize hw3 : wr.alloc (.cells #[U s.a, U s.b, U s.c, U s.d, U s.e, U s.f, U s.g, U s.h] 165) = w3 at HV HB3 ⊢
          clear hw3
          have hgv : w.heap.size ≤ wr.heap.size := HB.out.size
          have HF := Lib.hid (fun (wx : World) (hb : Below wr.heap.size wr wx) => World.rowIs.of_block HW.out (hb.block _ (World.rowIs.lt HW.out)))
          have HKx := Lib.hid (fun (wx : World) (hb : Below wr.heap.size wr wx) => (HK.out.below HB.out).below hb)
          generalize hgE : wr.heap.size = gv at hgv HV HB3 HF HKx ⊢
          clear hgE
          go_wp2
          try rw [show (((64 : Nat) : Nat) : Int) = 64 from rfl]
          go_loopw [105] (fun i wx => ∃ n : Nat, n ≤ 64 ∧ i = .int .i64 n ∧ Hid (Blk8 wx gv (rounds keysW b s n)) ∧ Hid (Below gv wr wx)) (fun i _ => 64 - (intOf i).toNat)
          case atStart => exact ⟨0, by omega, rfl, HV, HB3⟩
          case round =>
            clear HV HB3 hn16 hn hnn
            obtain ⟨n, hn, rfl, HV, HB2⟩ := hrel
            by_cases hlt2 : n < 64
            · have cw := World.rowIs.cell (HF.out _ HB2.out) (i := n) (by omega)
              replace cw : wr.cell? ⟨w.heap.size, n, none⟩ = some (.int .u32 ((tn ((schL b 64).getD n 0) : Nat) : Int)) := cw
              have ck : wr.cell? ⟨2, n, none⟩ = some (.int .u32 ((tn (keysW.getD n 0) : Nat) : Int)) := (HKx.out _ HB2.out) n (by omega)
              have HS := Lib.hid (show rounds keysW b s (n + 1) = roundW (rounds keysW b s n) (keysW.getD n 0) ((schL b 64).getD n 0) from rfl)
              have hvl := HV.out.lt
              generalize (schL b 64).getD n 0 = wn at cw HS
              generalize keysW.getD n 0 = kn at ck HS
              generalize rounds keysW b s n = r at HV HS
              obtain ⟨a0, b0, c0, d0, e0, f0, g0, h0⟩ := r
              obtain ⟨v0, v1, v2, v3, v4, v5, v6, v7⟩ := HV.out.cells
              simp only at v0 v1 v2 v3 v4 v5 v6 v7
              have ia2 : (n : Int) < 64 := by omega
              have R6 := Lib.hid (show ∀ W : World, Calls Tryz.prog 114 #[.int .u32 (tn e0 : Int), .int .i64 (-6)] W (fun e w' => e = .returned (.int .u32 (tn (rr e0 6) : Int)) ∧ W = w') from fun W => rot_any e0 6 (by decide) (by decide) W)
              have R11 := Lib.hid (show ∀ W : World, Calls Tryz.prog 114 #[.int .u32 (tn e0 : Int), .int .i64 (-11)] W (fun e w' => e = .returned (.int .u32 (tn (rr e0 11) : Int)) ∧ W = w') from fun W => rot_any e0 11 (by decide) (by decide) W)
              have R25 := Lib.hid (show ∀ W : World, Calls Tryz.prog 114 #[.int .u32 (tn e0 : Int), .int .i64 (-25)] W (fun e w' => e = .returned (.int .u32 (tn (rr e0 25) : Int)) ∧ W = w') from fun W => rot_any e0 25 (by decide) (by decide) W)
              have R2 := Lib.hid (show ∀ W : World, Calls Tryz.prog 114 #[.int .u32 (tn a0 : Int), .int .i64 (-2)] W (fun e w' => e = .returned (.int .u32 (tn (rr a0 2) : Int)) ∧ W = w') from fun W => rot_any a0 2 (by decide) (by decide) W)
              have R13 := Lib.hid (show ∀ W : World, Calls Tryz.prog 114 #[.int .u32 (tn a0 : Int), .int .i64 (-13)] W (fun e w' => e = .returned (.int .u32 (tn (rr a0 13) : Int)) ∧ W = w') from fun W => rot_any a0 13 (by decide) (by decide) W)
              have R22 := Lib.hid (show ∀ W : World, Calls Tryz.prog 114 #[.int .u32 (tn a0 : Int), .int .i64 (-22)] W (fun e w' => e = .returned (.int .u32 (tn (rr a0 22) : Int)) ∧ W = w') from fun W => rot_any a0 22 (by decide) (by decide) W)
              go_upto_region 17 with fail
              go_quiet (fail)
              generalize hD : World.drewN wr _ = wd
              have eD : World.cell? wr = World.cell? wd := by rw [← hD]; rfl
              have HV5 := Lib.hid (show Blk8 wd _ _ by rw [← hD]; exact HV.out)
              have HB5 := Lib.hid (show Below _ _ wd by rw [← hD]; exact ⟨HB2.out.os, HB2.out.tape, HB2.out.output, HB2.out.size, HB2.out.block⟩)
              rw [eD] at v0 v1 v2 v3 v4 v5 v6 v7 cw ck
              clear hD eD HV HB2 hvl
              go_wp2_with fail
              refine (R6.out _).mono ?_
              rintro e w5 ⟨rfl, rfl⟩
              go_wp2_with fail
              refine (R11.out _).mono ?_
              rintro e w5 ⟨rfl, rfl⟩
              go_wp2_with fail
              refine (R25.out _).mono ?_
              rintro e w5 ⟨rfl, rfl⟩
              go_upto_region 20 with fail
              go_quiet (fail)
              generalize hD : World.drewN wd _ = we
              have eD : World.cell? wd = World.cell? we := by rw [← hD]; rfl
              have HV6 := Lib.hid (show Blk8 we _ _ by rw [← hD]; exact HV5.out)
              have HB6 := Lib.hid (show Below _ _ we by rw [← hD]; exact ⟨HB5.out.os, HB5.out.tape, HB5.out.output, HB5.out.size, HB5.out.block⟩)
              rw [eD] at v0 v1 v2 v3 v4 v5 v6 v7
              clear hD eD HV5 HB5 cw ck
              go_wp2_with fail
              refine (R2.out _).mono ?_
              rintro e w5 ⟨rfl, rfl⟩
              go_wp2_with fail
              refine (R13.out _).mono ?_
              rintro e w5 ⟨rfl, rfl⟩
              go_wp2_with fail
              refine (R22.out _).mono ?_
              rintro e w5 ⟨rfl, rfl⟩
              go_upto_region 23 with fail
              have HCp := Lib.hid (copy8 HV6.out)
              obtain ⟨wf, hcp, hVf, hBf⟩ := HCp.out
              have HVf := Lib.hid hVf
              have HBf := Lib.hid hBf
              have hr1 := slice8_l (wr := we) HV6.out
              have hr2 := slice8_h (wr := we) HV6.out
              clear hVf hBf HCp v0 v1 v2 v3 v4 v5 v6 v7
              obtain ⟨v0, v1, v2, v3, v4, v5, v6, v7⟩ := HVf.out.cells
              simp only at v0 v1 v2 v3 v4 v5 v6 v7
              have z0 := HVf.out.frozen 0
              have z4 := HVf.out.frozen 4
              go_still_tail 2, (by kernel_rfl)
              go_wp2
              go_roundw
              case rel => exact ⟨n + 1, by omega, by go_num, Lib.hid (by rw [HS.out]; exact HVf.out.set04 _ _), Lib.hid (((HB6.out.trans (HBf.out _ (Nat.le_refl _))).setCell (Nat.le_refl _) _).setCell (Nat.le_refl _) _)⟩
              case measure => simp [intOf]; omega
            · obtain rfl : n = 64 := by omega
              have HB9 := Lib.hid (HB.out.trans (HB2.out.mono hgv))
              have HH9 := Lib.hid ((HH.out.below HB9.out).row)
              have HV9 := Lib.hid HV.out.row
              have hbg : hb < gv := by have := HH.out.lt; omega
              have hgne : gv ≠ hb := by omega
              have HGr := Lib.hid (grown_of_below (g := hb) HB9.out)
              have HDef := Lib.hid (show blockW keysW s b = add8 s (rounds keysW b s 64) from rfl)
              clear HW HB HF HKx HV HB2 hlt hlt2 hhr HB9
              generalize rounds keysW b s 64 = r at *
              go_wp2
              try rw [show (((64 : Nat) : Nat) : Int) = 64 from rfl]
              go_loopw [182] (fun i wx => ∃ n : Nat, n ≤ 8 ∧ i = .int .i64 n ∧ Hid (wx.rowIs hb 165 8 (fun j => .int .u32 ((tn (if j < n then s.at j + r.at j else s.at j) : Nat) : Int))) ∧ Hid (wx.rowIs gv 165 8 (fun j => .int .u32 ((tn (r.at j) : Nat) : Int))) ∧ Hid (w.grownBy wx (some hb))) (fun i _ => 8 - (intOf i).toNat)
              case atStart => exact ⟨0, by omega, rfl, Lib.hid (HH9.out.congr fun j hj => by simp), HV9, HGr⟩
              case round =>
                clear HH9 HV9 HGr
                obtain ⟨n, hn, rfl, HA, HV, HG⟩ := hrel
                by_cases hlt : n < 8
                · have c1 := HA.out.cell (i := n) hlt
                  have c2 := HV.out.cell (i := n) hlt
                  have hf := HA.out.frozen n
                  replace c1 : wr.cell? ⟨hb, n, none⟩ = some (.int .u32 ((tn (s.at n) : Nat) : Int)) := by rw [c1, if_neg (Nat.lt_irrefl n)]
                  replace c2 : wr.cell? ⟨gv, n, none⟩ = some (.int .u32 ((tn (r.at n) : Nat) : Int)) := c2
                  have ia2 : (n : Int) < 8 := by omega
                  have HN := Lib.hid (fun (v : Int) (hv : v = (tn (s.at n + r.at n) : Int)) => (HA.out.set n (.int .u32 v)).congr (g := fun j => .int .u32 ((tn (if j < n + 1 then s.at j + r.at j else s.at j) : Nat) : Int)) fun j hj => by
                    by_cases hjn : j = n
                    · subst hjn; rw [if_pos rfl, if_pos (by omega), hv]
                    · rw [if_neg hjn]
                      by_cases h2 : j < n
                      · rw [if_pos h2, if_pos (by omega)]
                      · rw [if_neg h2, if_neg (by omega)])
                  go_upto_region 29 with fail
                  go_still_tail 11, (by kernel_rfl)
                  go_wp2
                  go_roundw
                  case rel => exact ⟨n + 1, by omega, by go_num, Lib.hid (HN.out _ rfl), Lib.hid (HV.out.setOther hgne _), Lib.hid (grown_drew2 (grown_set HG.out n _))⟩
                  case measure => simp [intOf]; omega
                · obtain rfl : n = 8 := by omega
                  have HA8 := Lib.hid (blk_row (s := add8 s r) (HA.out.congr fun j hj => by
                    rw [if_pos hj]
                    match j, hj with
                    | 0, _ => rfl
                    | 1, _ => rfl
                    | 2, _ => rfl
                    | 3, _ => rfl
                    | 4, _ => rfl
                    | 5, _ => rfl
                    | 6, _ => rfl
                    | 7, _ => rfl))
                  go_wp2
                  go_end0
                  exact ⟨rfl, by rw [HDef.out]; exact HA8.out, HG.out⟩
end Go.Proofs.YtkdplkhnkimhpaaGreatDoor
