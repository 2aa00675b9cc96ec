/-
  The program: a header, and texts set into it.
-/
import Derived.Test.YtkooakadckjpkaaGreatDoorTarW
import Derived.Lib.LazyBuf
import Derived.Deep.RegionWith
import Derived.StillTailTactics
import Derived.BigRegion
namespace Go.Proofs.YtkooakadckjpkaaGreatDoor
open Go.RowKit

/-- the block g is a header of the bytes L -/
def Hdr (w : World) (g : Nat) (L : List UInt8) : Prop := L.length = 512 ∧ w.rowIs g 85 512 (fun j => .int .u8 ((L.getD j 0).toNat : Int))
/-- a text set at a place -/
def setB (L : List UInt8) (a : Nat) (s : List UInt8) : List UInt8 := L.take a ++ s ++ L.drop (a + s.length)
theorem setB_len {L : List UInt8} {a : Nat} {s : List UInt8} (h : a + s.length ≤ L.length) : (setB L a s).length = L.length := by simp [setB]; omega
theorem setB_get {L : List UInt8} {a : Nat} {s : List UInt8} (h : a + s.length ≤ L.length) (j : Nat) : (setB L a s).getD j 0 = if a ≤ j ∧ j < a + s.length then s.getD (j - a) 0 else L.getD j 0 := by
  unfold setB
  simp only [List.getD_eq_getElem?_getD]
  by_cases h1 : j < a
  · rw [if_neg (by omega), List.append_assoc, List.getElem?_append_left (by simp; omega), List.getElem?_take_of_lt h1]
  · by_cases h2 : j < a + s.length
    · rw [if_pos ⟨by omega, h2⟩, List.append_assoc, List.getElem?_append_right (by simp; omega), List.getElem?_append_left (by simp; omega)]
      congr 2; simp; omega
    · rw [if_neg (by omega), List.getElem?_append_right (by simp; omega), List.getElem?_drop]
      congr 2; simp; omega
theorem Hdr.set {w : World} {g : Nat} {L : List UInt8} (h : Hdr w g L) (a : Nat) (s : List UInt8) (hs : a + s.length ≤ 512) :
    Hdr (w.setCells g a (s.map fun x => Value.int .u8 (x.toNat : Int))) g (setB L a s) := by
  obtain ⟨h1, h2⟩ := h
  refine ⟨(setB_len (by omega)).trans h1, ?_⟩
  refine (rowIs_setCells _ a _ _ h2).congr fun j hj => ?_
  rw [setB_get (by omega), List.length_map]
  split
  · rename_i hc
    rw [List.getElem?_map, List.getElem?_eq_getElem (by omega)]
    simp only [Option.map_some, Option.getD_some, List.getD_eq_getElem?_getD, List.getElem?_eq_getElem (show j - a < s.length by omega)]
  · rfl

set_option maxHeartbeats 1000000 in
set_option maxRecDepth 100000 in
theorem text_any (g : Nat) (L : List UInt8) (a : Nat) (s : List UInt8) (w : World) (hH : Hdr w g L) (hs : a + s.length ≤ 512) (ha : a < 512) :
    Calls Tryz.prog 53 #[.pointer (some ⟨g, 0, none⟩), .int .i64 a, .string (S s)] w fun e w' => e = .returned (.tuple #[]) ∧ w' = w.setCells g a (s.map fun x => Value.int .u8 (x.toNat : Int)) := by
  have e : Tryz.prog.arrayLen 83 = 512 := by kernel_rfl
  have ha0 : (0 : Int) ≤ (a : Int) := by omega
  have ha1 : (a : Int) ≤ (Tryz.prog.arrayLen 83 : Int) := by rw [e]; omega
  have hru : ∀ w : World, (Instr.sliceAt 83 (.pointer (some ⟨g, 0, none⟩)) (some (.int .i64 (a : Int))) none none).run Tryz.prog w = .ok (.slice (some ⟨g, a, none⟩) (512 - a) (512 - a)) w := by
    intro w
    rw [run_sliceAt_array_l (P := Tryz.prog) w 83 ⟨g, 0, none⟩ (by kernel_rfl) .i64 (a : Int) ha0 ha1, e]
    rw [show (sizeOf (Tryz.prog.elem 83)).run Tryz.prog w = .ok 1 w from by kernel_rfl]
    simp only [Result.andThen, slicedAt]
    rw [if_neg (by omega)]
    simp [Addr.add]
    try omega
  clear e ha1
  have hcp : (Builtin.copy_ #[57, 9] 3 #[.slice (some ⟨g, a, none⟩) (512 - a) (512 - a), .string (S s)]).run Tryz.prog w = .ok (goInt (S s).size) (w.setCells g a ((S s).data.toList.map fun x => Value.int .u8 (x.toNat : Int))) :=
    run_copy_string w _ _ _ 5 g a _ _ (S s) (by kernel_rfl) (fun _ => by kernel_rfl) (by rw [S_size]; omega)
      (fun j hj => by rw [S_size] at hj; rw [hH.2.cell (by omega)]; rfl) (fun j _ => hH.2.frozen _)
  rw [S_size] at hcp
  go_enter Tryz.func53, Tryz.ntmps53
  go_wp2_with fail
  go_end0
  exact ⟨rfl, rfl⟩
end Go.Proofs.YtkooakadckjpkaaGreatDoor
