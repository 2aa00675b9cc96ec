/-
  The program: a path's directory and last element.
-/
import Derived.Test.YtkooakadckjpkaaGreatDoorTarW
import Derived.Test.YtkooakadckjpkaaGreatDoorBarP
import Derived.Test.YtkooakadckjpkaaGreatDoorShelf
namespace Go.Proofs.YtkooakadckjpkaaGreatDoor
open Go.RowKit

theorem upB_none {p : List UInt8} (h0 : p ≠ []) (h : (47 : UInt8) ∉ p) : upB p = ([], p) := by
  unfold upB partsB
  rw [if_neg h0, cutB_last _ _ h]; rfl
theorem upB_cut (a b : List UInt8) (h : (47 : UInt8) ∉ b) : upB (a ++ 47 :: b) = (a, b) := by
  unfold upB partsB
  rw [if_neg (by simp), cutB_app, cutB_last _ _ h, List.dropLast_concat, joinB_cut]
  simp
theorem upB_at {p : List UInt8} {i : Nat} (hi : i < p.length) (h : p[i] = 47) (hb : ∀ j (hj : j < p.length), i < j → p[j] ≠ 47) : upB p = (p.take i, p.drop (i + 1)) := by
  have e : p = p.take i ++ 47 :: p.drop (i + 1) := by
    rw [← h, ← List.drop_eq_getElem_cons hi, List.take_append_drop]
  have hn : (47 : UInt8) ∉ p.drop (i + 1) := by
    intro hm
    obtain ⟨j, hj, e⟩ := List.getElem_of_mem hm
    rw [List.length_drop] at hj
    rw [List.getElem_drop] at e
    exact hb (i + 1 + j) (by omega) (by omega) e
  have := upB_cut (p.take i) (p.drop (i + 1)) hn
  rw [← e] at this; exact this

theorem S_bang (p : List UInt8) (j : Nat) (h : j < p.length) : (S p).data[j]! = p[j] := by
  show p.toArray[j]! = p[j]
  rw [getElem!_pos p.toArray j (by simpa using h)]; simp
set_option maxHeartbeats 1000000 in
theorem parentP_any (p : List UInt8) (h0 : p ≠ []) (hp : p.length ≤ 5000) (w : World) :
    Calls Tryz.prog 49 #[.string (S p)] w fun e w' => e = .returned (.tuple #[.string (S (upB p).1), .string (S (upB p).2)]) ∧ Below w.heap.size w w' := by
  have hL := Lib.hid (fun w => Tryz.strings_LastIndexByte (S p) 47 (by rw [S_size]; omega) w)
  rcases Lib.lastIndexByte_spec (S p) 47 with ⟨h1, h2⟩ | ⟨i, h1, h2, h3, h4⟩
  · have X := Lib.hid (upB_none h0 (by
      intro hm
      obtain ⟨j, hj, e⟩ := List.getElem_of_mem hm
      exact h2 j (by rw [S_size]; exact hj) (by rw [S_bang p j hj, e]; rfl)))
    rw [h1] at hL
    clear h1 h2
    go_enter Tryz.func49, Tryz.ntmps49
    go_wp2_with fail
    refine (hL.out _).mono ?_
    rintro e w' ⟨rfl, rfl⟩
    go_wp2_with fail
    go_ret2
    exact ⟨by rw [X.out]; rfl, Below.refl _ _⟩
  · rw [S_size] at h1 h4
    have X := Lib.hid (upB_at h1 (by rw [S_bang p i h1] at h3; exact UInt8.toNat_inj.1 (by have : (p[i].toNat : Int) = 47 := h3; show p[i].toNat = 47; omega)) (fun j hj hij e => h4 j hij hj (by rw [S_bang p j hj, e]; rfl)))
    rw [h2] at hL
    clear h2 h3 h4
    have hk2 : (i : Int) + 1 ≤ (p.length : Int) := by omega
    have hk3 : (0 : Int) ≤ (i : Int) := by omega
    have hk4 : (i : Int) ≤ (p.length : Int) := by omega
    go_enter Tryz.func49, Tryz.ntmps49
    go_wp2_with fail
    refine (hL.out _).mono ?_
    rintro e w' ⟨rfl, rfl⟩
    go_wp2_with fail
    go_region
    all_goals go_wp2
    all_goals go_ret2
    all_goals exact ⟨by rw [X.out]; rfl, (Below.refl _ _).drew⟩
end Go.Proofs.YtkooakadckjpkaaGreatDoor
