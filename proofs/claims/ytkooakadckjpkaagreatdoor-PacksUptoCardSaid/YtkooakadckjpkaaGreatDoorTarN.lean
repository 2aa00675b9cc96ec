/-
  The program: the library's Cut, TrimPrefix, Repeat in the form of lists.
-/
import Derived.Test.YtkooakadckjpkaaGreatDoorOwnB
import Derived.Test.YtkooakadckjpkaaGreatDoorOwnC
import Derived.Test.YtkooakadckjpkaaGreatDoorTarQ
namespace Go.Proofs.YtkooakadckjpkaaGreatDoor
open Go.RowKit

theorem index_piece (c : UInt8) (a b : List UInt8) (h : c ∉ a) : Lib.index (a ++ c :: b) [c] = a.length := by
  induction a with
  | nil => rw [List.nil_append, Lib.index, if_pos (by simp [List.isPrefixOf])]; rfl
  | cons x a ih =>
    have hx : ¬ c = x := by intro e; exact h (by simp [e])
    have ha : c ∉ a := by intro e; exact h (by simp [e])
    rw [List.cons_append, Lib.index, if_neg (by simp [List.isPrefixOf]; exact hx), ih ha, if_neg (by simp)]
    simp
theorem cut_piece (c : UInt8) (a b : List UInt8) (h : c ∉ a) : Lib.cut (a ++ c :: b) [c] = (a, b, true) := by
  unfold Lib.cut
  rw [index_piece c a b h, if_pos (by omega)]
  simp
theorem cut1_any (a b : List UInt8) (w : World) (hw : Std w) (h : (47 : UInt8) ∉ a) (hs : a.length + b.length ≤ 4294967200) :
    Calls Tryz.prog 66 #[.string (S (a ++ 47 :: b)), .string (S [47])] w fun e w' => e = .returned (.tuple #[.string (S a), .string (S b), .bool true]) ∧ Below w.heap.size w w' := by
  obtain ⟨m, hm⟩ := hw.maxlen
  refine (Tryz.strings_Cut (S (a ++ 47 :: b)) (S [47]) m w (by rw [S_size]; simp; omega) hm).mono fun e w' ⟨he, n, hw⟩ => ?_
  refine ⟨?_, by rw [hw]; exact below_drewN (Below.refl _ _) n⟩
  have e1 : (S (a ++ 47 :: b)).data.toList = a ++ 47 :: b := rfl
  have e2 : (S [47]).data.toList = [47] := rfl
  rw [he, e1, e2, cut_piece 47 a b h]; rfl
theorem trim_any (s p : List UInt8) (w : World) :
    Calls Tryz.prog 67 #[.string (S s), .string (S p)] w fun e w' => e = .returned (.string (S (Lib.trimPrefix s p))) ∧ w = w' :=
  (Tryz.strings_TrimPrefix (S s) (S p) w).mono fun _ _ ⟨he, hw⟩ => ⟨he, hw.symm⟩
theorem repeat_any (c : UInt8) (n : Nat) (w : World) (hn : n ≤ 100000) :
    Calls Tryz.prog 33 #[.string (S [c]), .int .i64 n] w fun e w' => e = .returned (.string (S (List.replicate n c))) ∧ Below w.heap.size w w' := by
  refine (Tryz.strings_Repeat (S [c]) n w (by omega) (by rw [S_size]; simp; omega)).mono fun e w' ⟨he, hw⟩ => ⟨?_, hw⟩
  rw [he]
  have := Lib.repeatL_replicate c 1 n
  rw [show List.replicate 1 c = [c] from rfl, Nat.mul_one] at this
  show Ending.returned (.string (S (Lib.repeatL [c] n))) = _
  rw [this]
end Go.Proofs.YtkooakadckjpkaaGreatDoor
