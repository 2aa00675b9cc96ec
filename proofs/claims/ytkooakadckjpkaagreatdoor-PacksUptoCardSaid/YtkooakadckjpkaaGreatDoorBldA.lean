/-
  strings.Builder by Go's own text: a builder of one's own is written: a byte, a text; what it holds.
-/
import Derived.Test.YtkooakadckjpkaaGreatDoorShelf
import Derived.Test.YtkooakadckjpkaaGreatDoorKeep
import Derived.Lib.Builder
import Derived.Lib.AppendStr
import Derived.Laws.Externs
import Derived.Laws.BitsLemmas
namespace Go.Proofs.YtkooakadckjpkaaGreatDoor
open Go.RowKit

abbrev tBld : TypeId := 59
abbrev tByte : TypeId := 5
/-- a builder of the call's own, holding a text -/
abbrev Bld (B b : Nat) (l : List UInt8) (w : World) : Prop := Lib.IsBuilder tBld tByte B b (Lib.byteCells l) w

/-- all blocks stay but bytes' and builders' -/
def KeepB (w w' : World) : Prop := ∀ T, T ≠ tByte → T ≠ tBld → KeepT T w w'
theorem KeepB.refl (w : World) : KeepB w w := fun T _ _ => KeepT.refl T w
theorem KeepB.trans {a b c : World} (h : KeepB a b) (k : KeepB b c) : KeepB a c := fun T h1 h2 => (h T h1 h2).trans (k T h1 h2)
theorem KeepB.below {w w' : World} (h : Below w.heap.size w w') : KeepB w w' := fun T _ _ => KeepT.below h
theorem Bld.after {B b : Nat} {l : List UInt8} {w w' : World} (h : Bld B b l w) (hb : Below w.heap.size w w') : Bld B b l w' := by
  rcases h with h | h
  · have hl := h.lt
    obtain ⟨h1, v, h2, h3, h4⟩ := h
    exact .inl ⟨h1, v, (hb.block b hl).trans h2, ownsRow_below h3 hb, h4⟩
  · have hl := h.lt
    obtain ⟨h1, v, h2, h3, h4⟩ := h
    exact .inr ⟨h1, v, (hb.block b hl).trans h2, ownsRow_below h3 hb, h4⟩
theorem Bld.lt {B b : Nat} {l : List UInt8} {w : World} (h : Bld B b l w) : b < w.heap.size := by
  rcases h with h | h <;> exact h.lt
theorem Bld.new (B : Nat) (w : World) (hB : B ≤ w.heap.size) : Bld B w.heap.size [] (w.alloc (.cells #[.pointer none, .slice none 0 0] tBld)) :=
  .inl ⟨hB, .slice none 0 0, heap_alloc_new w _, World.ownsRow_nil _ _ _ _, by simp [Value.ownBlock]⟩

theorem bld_size : (Tryz.prog.info? tBld).map (·.size) = some 2 := by kernel_rfl
theorem bld_lies : liesAt Tryz.prog Tryz.prog.depth tBld (2 / Tryz.prog.cellsOf tBld) 0 tBld 1 = true := by kernel_rfl

set_option maxHeartbeats 1000000 in
set_option maxRecDepth 100000 in
theorem copyCheck_used (b : Nat) (w : World) (h0 : w.cell? ⟨b, 0, none⟩ = some (.pointer (some ⟨b, 0, none⟩))) :
    Calls Tryz.prog 48 #[.pointer (some ⟨b, 0, none⟩)] w fun e w' => e = .returned (.tuple #[]) ∧ w' = w := by
  obtain ⟨j, hj, _⟩ := Option.map_eq_some_iff.1 bld_size
  go_enter Tryz.func48, Tryz.ntmps48
  go_wp2
  rw [Lib.run_neq_ptr_same w _ Tryz.underlying56 hj]
  go_wp2
  go_end0
  exact ⟨rfl, rfl⟩
set_option maxHeartbeats 1000000 in
set_option maxRecDepth 100000 in
theorem copyCheck_fresh (b : Nat) (w : World) (h0 : w.cell? ⟨b, 0, none⟩ = some (.pointer none)) (hsh : w.shape? b = some (tBld, 2)) (hfz : w.frozen? ⟨b, 0, none⟩ = false) :
    Calls Tryz.prog 48 #[.pointer (some ⟨b, 0, none⟩)] w fun e w' => e = .returned (.tuple #[]) ∧ w' = w.setCell ⟨b, 0, none⟩ (.pointer (some ⟨b, 0, none⟩)) := by
  obtain ⟨j, hj, hjs⟩ := Option.map_eq_some_iff.1 bld_size
  have hx := @run_callFunc_extern Tryz.prog 64 _ Extern.AbiNoEscape.same Tryz.func64 (by kernel_rfl) (by kernel_rfl) (by kernel_rfl) (by kernel_rfl)
  have hn : ∀ x : Value, (Extern.AbiNoEscape.same #[x]).run Tryz.prog w = .ok x w := fun x => Lib.run_noEscape w x
  have hc1 := Lib.run_to_unsafe w ⟨b, 0, none⟩ Tryz.underlying56 Tryz.underlying65 hj (by rw [hjs]; decide) hsh (Nat.zero_lt_succ 1)
  have hc2 := Lib.run_from_unsafe w ⟨b, 0, none⟩ Tryz.underlying65 Tryz.underlying56 hj hsh bld_lies
  go_enter Tryz.func48, Tryz.ntmps48
  go_wp2
  go_end0
  exact ⟨rfl, rfl⟩
theorem copyCheck_any {B b : Nat} {bs : List Value} {w : World} (h : Lib.IsBuilder tBld tByte B b bs w) :
    Calls Tryz.prog 48 #[.pointer (some ⟨b, 0, none⟩)] w fun e w' => e = .returned (.tuple #[]) ∧ Lib.BuilderAt tBld tByte B b (.pointer (some ⟨b, 0, none⟩)) bs w' ∧ Below B w w' ∧ w'.heap.size = w.heap.size ∧ KeepB w w' := by
  rcases h with h | h
  · refine (copyCheck_fresh b w h.cell0 h.shape h.frozen0).mono ?_
    rintro e w' ⟨rfl, rfl⟩
    refine ⟨rfl, h.used _, (Below.refl B w).setCell (p := ⟨b, 0, none⟩) h.1 _, by simp, fun T _ h2 => ?_⟩
    obtain ⟨_, v, hb, _⟩ := h
    exact KeepT.setCell hb (fun e => h2 e.symm) 0 _
  · refine (copyCheck_used b w h.cell0).mono ?_
    rintro e w' ⟨rfl, rfl⟩
    exact ⟨rfl, h, Below.refl B _, rfl, KeepB.refl _⟩

set_option maxHeartbeats 2000000 in
set_option maxRecDepth 100000 in
theorem writeString_any {B b : Nat} {l s : List UInt8} {w : World} (h : Bld B b l w) (hlen : l.length + s.length ≤ 4000000000) (hBw : B ≤ w.heap.size) :
    Calls Tryz.prog 32 #[.pointer (some ⟨b, 0, none⟩), .string (S s)] w fun e w' => e = .returned (.tuple #[.int .i64 s.length, .nilIface]) ∧ Bld B b (l ++ s) w' ∧ Below B w w' ∧ KeepB w w' := by
  obtain ⟨i0, hi, hz0, hz1, hz2⟩ := info_parts (show (Tryz.prog.info? tByte).map (fun i => (i.zero, i.size, i.bytes)) = some (some (.int .u8 0), 1, 1) by kernel_rfl)
  have hll : (Lib.byteCells l).length = l.length := Lib.byteCells_length l
  have HS := Lib.hid hBw
  have HH := Lib.hid h
  have hss : (S s).size = s.length := S_size s
  clear h hBw
  go_enter Tryz.func32, Tryz.ntmps32
  go_wp2_with fail
  refine (copyCheck_any HH.out).mono ?_
  rintro e1 w1 ⟨rfl, h1, hb1, hs1, hk1⟩
  have HK1 := Lib.hid hk1
  clear hk1
  obtain ⟨hB, v, hbk, hown, hne⟩ := h1
  have HS1 := Lib.hid hs1
  have HB := Lib.hid hB
  have HBK := Lib.hid hbk
  have HO := Lib.hid hown
  have HN := Lib.hid hne
  have c0 : w1.cell? ⟨b, 0, none⟩ = some (.pointer (some ⟨b, 0, none⟩)) := by rw [Lib.cell_of_heap hbk]; rfl
  have c1 : w1.cell? ⟨b, 1, none⟩ = some v := by rw [Lib.cell_of_heap hbk]; rfl
  have f1 : w1.frozen? ⟨b, 1, none⟩ = false := Lib.frozen_of_heap hbk 1
  have hlt : b < w1.heap.size := World.block_lt_of_cell? w1 _ c0
  clear hB hbk hown hne hs1
  go_wp2_with (at_builtin; refine Lib.wpList_append_own_string _ rfl _ _ 57 9 rfl B tByte i0 Tryz.underlying57 Tryz.underlying9 hi hz0 hz1 hz2 _ _ _ rfl HO.out (S s) rfl (by rw [hll, hss]; unfold maxLen; omega) (by rw [hll, hss]; omega) (by have := HS1.out; have := HS.out; omega) ?_; intro v' w2 hown2 hgr2 _; have HO2 := Lib.hid hown2; have HG2 := Lib.hid hgr2; obtain ⟨g, cap, rfl⟩ := ownsRow_form hown2; have hb2 : w2.heap[b]? = some (.cells #[.pointer (some ⟨b, 0, none⟩), v] tBld (0, 0)) := (by rw [hgr2.block b hlt (fun e => HN.out e.symm)]; exact HBK.out); have HB2 := Lib.hid hb2; have d1 : w2.cell? ⟨b, 1, none⟩ = some v := (by rw [Lib.cell_of_heap hb2]; rfl); have f2 : w2.frozen? ⟨b, 1, none⟩ = false := Lib.frozen_of_heap hb2 1; clear hown2 hgr2 hb2)
  go_ret2
  refine ⟨by simp, .inr ?_, ?_, fun T ht1 ht2 => ?_⟩
  · refine Lib.BuilderAt.put (T := tBld) (e := tByte) HB.out HB2.out (bs' := Lib.byteCells (l ++ s)) ?_ (by decide)
    have h3 := HO2.out
    have e1 : Lib.strCells (S s) = Lib.byteCells s := rfl
    rw [hll, hss, e1] at h3
    rw [show Lib.byteCells (l ++ s) = Lib.byteCells l ++ Lib.byteCells s from by unfold Lib.byteCells; rw [List.map_append], List.length_append, hll, Lib.byteCells_length]
    exact h3
  · exact (hb1.grown HG2.out (by have := HS1.out; have := HS.out; omega) (fun k hk => (HO.out.lt k hk).1)).setCell (p := ⟨b, 1, none⟩) HB.out _
  · exact (HK1.out T ht1 ht2).trans ((KeepT.grown HG2.out HO.out (fun e => ht1 e.symm)).trans (KeepT.setCell HB2.out (fun e => ht2 e.symm) 1 _))
theorem bldString_any {B b : Nat} {l : List UInt8} {w : World} (h : Bld B b l w) (hBw : B ≤ w.heap.size) :
    Calls Tryz.prog 34 #[.pointer (some ⟨b, 0, none⟩)] w fun e w' => e = .returned (.string (S l)) ∧ Below B w w' :=
  (Tryz.Builder_String_any B b l w h hBw).mono fun e w' h => h
end Go.Proofs.YtkooakadckjpkaaGreatDoor
