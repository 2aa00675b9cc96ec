/-
  The program's paths and entries: tree order, parents, joins, what may be an entry.
-/
import Derived.Test.YtkooakadckjpkaaGreatDoorOwnB
import Derived.Test.YtkooakadckjpkaaGreatDoorPath2
import Derived.Deep.QuietTactic
import Derived.BigQuiet
import Derived.WalkSmall
namespace Go.Proofs.YtkooakadckjpkaaGreatDoor
open Go.RowKit

theorem joinP_any (a b : List UInt8) (w : World) (hs : a.length + b.length ≤ 9000000000) :
    Calls Tryz.prog 50 #[.string (S a), .string (S b)] w fun e w' => e = .returned (.string (S (inB a b))) ∧ w = w' := by
  by_cases h1 : a = []
  · subst h1
    go_enter Tryz.func50, Tryz.ntmps50
    go_wp2
    go_ret
    exact ⟨ret_str (by simp [inB]), rfl⟩
  have f1 : a.isEmpty = false := by cases a <;> simp_all
  by_cases h2 : b = []
  · subst h2
    have X := Lib.hid (show inB a [] = a by simp [inB])
    clear h1
    go_enter Tryz.func50, Tryz.ntmps50
    go_wp2
    go_ret
    exact ⟨ret_str (by rw [X.out]), rfl⟩
  have f2 : b.isEmpty = false := by cases b <;> simp_all
  have X := Lib.hid (show inB a b = a ++ 47 :: b by simp [inB, h1, h2])
  clear h1 h2
  go_enter Tryz.func50, Tryz.ntmps50
  go_wp2
  go_ret
  exact ⟨ret_str (by rw [X.out]), rfl⟩

set_option maxHeartbeats 1000000 in
theorem targetP_any (s : List UInt8) (w : World) (hs : s.length ≤ maxLen) :
    Calls Tryz.prog 45 #[.string (S s)] w fun e w' => e = .returned (.bool (targetB s)) ∧ w = w' := by
  unfold maxLen at hs
  go_enter Tryz.func45, Tryz.ntmps45
  go_wp2
  go_loop [6] (fun i => ∃ k : Nat, k ≤ s.length ∧ i = .int .i64 k ∧ Hid ((s.take k).all visC = true)) (fun i => s.length - (intOf i).toNat)
  case atStart => exact ⟨0, by omega, rfl, by simp [Hid]⟩
  case round =>
    obtain ⟨k, hk, rfl, hall⟩ := hrel
    by_cases hlt : k < s.length
    · have hi := visC_iff s[k]
      cases hc : visC s[k]
      · have HA := Lib.hid (show targetB s = false by
          have : s.all visC = false := by rw [List.all_eq_false]; exact ⟨s[k], List.getElem_mem hlt, by simp [hc]⟩
          rw [targetB, this]; rfl)
        have hn : ¬ (33 ≤ (s[k].toNat : Int) ∧ (s[k].toNat : Int) ≤ 126) := fun h => absurd (hi.2 h) (by simp [hc])
        clear hc hi hall
        by_cases h33 : (s[k].toNat : Int) < 33
        · clear hn
          go_wp2
          go_ret
          exact ⟨ret_bool HA.out.symm, rfl⟩
        · have h126 : 126 < (s[k].toNat : Int) := by omega
          clear hn
          go_wp2
          go_ret
          exact ⟨ret_bool HA.out.symm, rfl⟩
      · have HA := Lib.hid (show (s.take (k + 1)).all visC = true by rw [all_snoc _ _ _ hlt, hall.out, hc]; rfl)
        obtain ⟨h33, h126⟩ := hi.1 hc
        clear hc hi hall
        go_wp2
        go_round
        case rel => exact ⟨k + 1, by omega, by go_num, HA⟩
        case measure => simp [intOf]; omega
    · have HA := Lib.hid (show targetB s = (!s.isEmpty && decide (s.length ≤ 100)) by
        have := hall.out; rw [List.take_of_length_le (Nat.le_of_not_lt hlt)] at this; rw [targetB, this]; rfl)
      replace hlt : s.length ≤ k := by omega
      clear hall
      by_cases he : s = []
      · subst he
        go_wp2
        go_ret
        exact ⟨ret_bool (by rw [HA.out]; rfl), rfl⟩
      · have f1 : s.isEmpty = false := by cases s <;> simp_all
        clear he
        go_wp2
        go_ret
        exact ⟨ret_bool (by rw [HA.out, f1]; simp; omega), rfl⟩


set_option maxHeartbeats 2000000 in
theorem goodP_any (x : Ent) (w : World) (hs : x.data.length ≤ 4294967280) :
    Calls Tryz.prog 27 #[x.agg] w fun e w' => e = .returned (.bool (goodB x)) ∧ Below w.heap.size w w' := by
  obtain ⟨p, kind, mode, data⟩ := x
  simp only [Ent.agg] at *
  by_cases k1 : kind = 1
  · subst k1
    have X := Lib.hid (show goodB ⟨p, 1, mode, data⟩ = (modeE mode && data.isEmpty) by simp [goodB])
    by_cases m0 : 0 ≤ mode
    case neg =>
      have m1 : mode < 0 := by omega
      have X2 := Lib.hid (show goodB ⟨p, 1, mode, data⟩ = false by rw [X.out, modeE, decide_eq_false (by omega)]; rfl)
      clear m0 X
      go_enter Tryz.func27, Tryz.ntmps27
      go_wp2
      go_ret
      exact ⟨ret_bool (by rw [X2.out]), (Below.refl _ _).alloc (Nat.le_refl _) _⟩
    by_cases m1 : mode ≤ 511
    case neg =>
      have m2 : 511 < mode := by omega
      have X2 := Lib.hid (show goodB ⟨p, 1, mode, data⟩ = false by rw [X.out, modeE, decide_eq_false (by omega)]; rfl)
      clear m1 X
      go_enter Tryz.func27, Tryz.ntmps27
      go_wp2
      go_ret
      exact ⟨ret_bool (by rw [X2.out]), (Below.refl _ _).alloc (Nat.le_refl _) _⟩
    have HM := Lib.hid (show modeE mode = true by rw [modeE, decide_eq_true ⟨m0, m1⟩])
    · by_cases d0 : data = []
      · subst d0
        go_enter Tryz.func27, Tryz.ntmps27
        go_wp2
        go_ret
        exact ⟨ret_bool (by rw [X.out, HM.out]; simp), (Below.refl _ _).alloc (Nat.le_refl _) _⟩
      · have f1 : data.isEmpty = false := by cases data <;> simp_all
        clear d0
        go_enter Tryz.func27, Tryz.ntmps27
        go_wp2
        go_ret
        exact ⟨ret_bool (by rw [X.out, HM.out, f1]; rfl), (Below.refl _ _).alloc (Nat.le_refl _) _⟩
  have f1 : (kind == 1) = false := by simpa using k1
  by_cases k2 : kind = 2
  · subst k2
    have X := Lib.hid (show goodB ⟨p, 2, mode, data⟩ = (modeE mode && decide (data.length ≤ 4096)) by simp [goodB])
    by_cases m0 : 0 ≤ mode
    case neg =>
      have m1 : mode < 0 := by omega
      have X2 := Lib.hid (show goodB ⟨p, 2, mode, data⟩ = false by rw [X.out, modeE, decide_eq_false (by omega)]; rfl)
      clear m0 X
      go_enter Tryz.func27, Tryz.ntmps27
      go_wp2
      go_ret
      exact ⟨ret_bool (by rw [X2.out]), (Below.refl _ _).alloc (Nat.le_refl _) _⟩
    by_cases m1 : mode ≤ 511
    case neg =>
      have m2 : 511 < mode := by omega
      have X2 := Lib.hid (show goodB ⟨p, 2, mode, data⟩ = false by rw [X.out, modeE, decide_eq_false (by omega)]; rfl)
      clear m1 X
      go_enter Tryz.func27, Tryz.ntmps27
      go_wp2
      go_ret
      exact ⟨ret_bool (by rw [X2.out]), (Below.refl _ _).alloc (Nat.le_refl _) _⟩
    have HM := Lib.hid (show modeE mode = true by rw [modeE, decide_eq_true ⟨m0, m1⟩])
    · by_cases d0 : data.length ≤ 4096
      · go_enter Tryz.func27, Tryz.ntmps27
        go_wp2
        go_ret
        exact ⟨ret_bool (by rw [X.out, HM.out]; simp; omega), (Below.refl _ _).alloc (Nat.le_refl _) _⟩
      · have d1 : 4096 < data.length := by omega
        clear d0
        go_enter Tryz.func27, Tryz.ntmps27
        go_wp2
        go_ret
        exact ⟨ret_bool (by rw [X.out, HM.out]; simp; omega), (Below.refl _ _).alloc (Nat.le_refl _) _⟩
  have f2 : (kind == 2) = false := by simpa using k2
  by_cases k3 : kind = 3
  · subst k3
    have X := Lib.hid (show goodB ⟨p, 3, mode, data⟩ = (decide (mode = 0) && targetB data) by simp [goodB])
    by_cases m0 : mode = 0
    · subst m0
      go_enter Tryz.func27, Tryz.ntmps27
      go_wp2_with (go_at_call 45; refine (targetP_any data _ (by unfold maxLen; omega)).mono ?_; rintro e9 w9 ⟨rfl, rfl⟩)
      go_ret
      exact ⟨ret_bool (by rw [X.out]; simp), (Below.refl _ _).alloc (Nat.le_refl _) _⟩
    · have m1 : (mode == 0) = false := by simpa using m0
      have X2 := Lib.hid (show goodB ⟨p, 3, mode, data⟩ = false by rw [X.out, decide_eq_false m0]; rfl)
      clear m0 X
      go_enter Tryz.func27, Tryz.ntmps27
      go_wp2
      go_ret
      exact ⟨ret_bool (by rw [X2.out]), (Below.refl _ _).alloc (Nat.le_refl _) _⟩
  have f3 : (kind == 3) = false := by simpa using k3
  have X2 := Lib.hid (show goodB ⟨p, kind, mode, data⟩ = false by simp [goodB, k1, k2, k3])
  clear k1 k2 k3
  go_enter Tryz.func27, Tryz.ntmps27
  go_wp2
  go_ret
  exact ⟨ret_bool X2.out.symm, (Below.refl _ _).alloc (Nat.le_refl _) _⟩
end Go.Proofs.YtkooakadckjpkaaGreatDoor
