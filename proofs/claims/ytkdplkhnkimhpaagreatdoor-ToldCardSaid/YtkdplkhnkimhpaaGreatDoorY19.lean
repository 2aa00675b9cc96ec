/-
  Plain: the tree that Told makes, and its sum.
-/
import Derived.Test.YtkdplkhnkimhpaaGreatDoorY01
import Derived.Test.YtkdplkhnkimhpaaGreatDoorY17
import Derived.Test.YtkdplkhnkimhpaaGreatDoorY18
set_option linter.unusedVariables false
set_option linter.unusedSimpArgs false
namespace Go.Proofs.YtkdplkhnkimhpaaGreatDoor

def pD : List UInt8 := [100]
def pF : List UInt8 := [100, 47, 102]
def pL : List UInt8 := [100, 47, 108]
def told (d m : Int) (data tg : List UInt8) : List Ent := [⟨pD, 1, d, []⟩, ⟨pF, 2, m, data⟩, ⟨pL, 3, 0, tg⟩]
theorem kids_root (d m : Int) (data tg : List UInt8) : childrenL (told d m data tg) [] = [⟨pD, 1, d, []⟩] := by
  have h1 : (upB pD).1 = [] := by kernel_rfl
  have h2 : (upB pF).1 ≠ [] := by rw [show (upB pF).1 = [100] from (by kernel_rfl)]; decide
  have h3 : (upB pL).1 ≠ [] := by rw [show (upB pL).1 = [100] from (by kernel_rfl)]; decide
  simp [childrenL, told, h1, h2, h3]
theorem kids_d (d m : Int) (data tg : List UInt8) : childrenL (told d m data tg) pD = [⟨pF, 2, m, data⟩, ⟨pL, 3, 0, tg⟩] := by
  have h1 : (upB pD).1 ≠ pD := by rw [show (upB pD).1 = [] from (by kernel_rfl)]; decide
  have h2 : (upB pF).1 = pD := by kernel_rfl
  have h3 : (upB pL).1 = pD := by kernel_rfl
  simp [childrenL, told, h1, h2, h3]
theorem told_sum (d m : Int) (data tg : List UInt8) : sumT (told d m data tg) = shaB (headT 493 ++ lineT [100] (shaB (headT d ++ (lineT [102] (shaB (fileT m data)) ++ lineT [108] (shaB (linkT tg)))))) := by
  have n1 : (upB pD).2 = [100] := by kernel_rfl
  have n2 : (upB pF).2 = [102] := by kernel_rfl
  have n3 : (upB pL).2 = [108] := by kernel_rfl
  unfold sumT
  simp [sumL, kids_root, kids_d, n1, n2, n3, leafT]
theorem told_first {d m : Int} {data tg : List UInt8} (hd : 0 ≤ d ∧ d ≤ 511) (hm : 0 ≤ m ∧ m ≤ 511) (hdat : data.length ≤ 4096) (ht : targetB tg = true) : First (wrongP (told d m data tg)) (told d m data tg).length (-1) := by
  have g0 : goodB ⟨pD, 1, d, []⟩ = true := by simp [goodB, modeE, hd]
  have g1 : goodB ⟨pF, 2, m, data⟩ = true := by simp [goodB, modeE, hm, hdat]
  have g2 : goodB ⟨pL, 3, 0, tg⟩ = true := by simp [goodB, ht]
  have p0 : pathB pD = true := by kernel_rfl
  have p1 : pathB pF = true := by kernel_rfl
  have p2 : pathB pL = true := by kernel_rfl
  have c1 : decide (0 ≤ compareL (partsB pD) (partsB pF)) = false := by kernel_rfl
  have c2 : decide (0 ≤ compareL (partsB pF) (partsB pL)) = false := by kernel_rfl
  have i0 : isDirF (treeOf []) (partsB pD).dropLast = true := by kernel_rfl
  have i1 : isDirF (treeOf [⟨pD, 1, d, []⟩]) (partsB pF).dropLast = true := by kernel_rfl
  have i2 : isDirF (treeOf [⟨pD, 1, d, []⟩, ⟨pF, 2, m, data⟩]) (partsB pL).dropLast = true := by kernel_rfl
  refine .inr ⟨rfl, fun j hj => ?_⟩
  have hj3 : j < 3 := hj
  have : j = 0 ∨ j = 1 ∨ j = 2 := by omega
  rcases this with rfl | rfl | rfl
  · rw [wrongP_eq (show (told d m data tg)[0]? = some ⟨pD, 1, d, []⟩ from rfl), g0, p0, show (told d m data tg).take 0 = [] from rfl, i0]; rfl
  · rw [wrongP_eq (show (told d m data tg)[1]? = some ⟨pF, 2, m, data⟩ from rfl), g1, p1, show (told d m data tg).take 1 = [⟨pD, 1, d, []⟩] from rfl, i1, show (told d m data tg)[1 - 1]? = some ⟨pD, 1, d, []⟩ from rfl]
    show (_ || _ || _ || _ || (decide (0 < 1) && decide (0 ≤ compareL (partsB pD) (partsB pF))) || _) = false
    rw [c1]; rfl
  · rw [wrongP_eq (show (told d m data tg)[2]? = some ⟨pL, 3, 0, tg⟩ from rfl), g2, p2, show (told d m data tg).take 2 = [⟨pD, 1, d, []⟩, ⟨pF, 2, m, data⟩] from rfl, i2, show (told d m data tg)[2 - 1]? = some ⟨pF, 2, m, data⟩ from rfl]
    show (_ || _ || _ || _ || (decide (0 < 2) && decide (0 ≤ compareL (partsB pF) (partsB pL))) || _) = false
    rw [c2]; rfl
theorem dec_vis (n : Nat) : (Lib.decDigits n).all visC = true := by
  induction n using Nat.strongRecOn with
  | ind n ih =>
    have key : ∀ k, k < 10 → visC (UInt8.ofNat (48 + k)) = true := by decide
    by_cases h : n < 10
    · rw [decB_small h]; simp only [List.all_cons, List.all_nil, key n h, Bool.and_true]
    · rw [decB_big h, List.all_append, ih (n / 10) (by omega)]
      simp only [List.all_cons, List.all_nil, key (n % 10) (Nat.mod_lt _ (by decide)), Bool.and_true]
theorem told_target (n : Nat) (h : n < 1000) : targetB (116 :: Lib.decDigits n) = true := by
  have h1 := dec_vis n
  have h2 := decB_len n 2 (by omega)
  unfold targetB
  rw [List.all_cons, h1]
  simp [visC]
  omega
end Go.Proofs.YtkdplkhnkimhpaaGreatDoor
