/-
  The document's answer: elements, cuts and paths: each call computes its Lean word.
-/
import Derived.Test.YtkooakadckjpkaaGreatDoorBase
namespace Go.Proofs.YtkooakadckjpkaaGreatDoor
open Go.RowKit

set_option maxHeartbeats 400000 in
theorem beginsR_any (s t : List UInt8) (w : World) :
    Calls Tryz.prog 22 #[.string (S s), .string (S t)] w fun e w' => e = .returned (.bool (t.isPrefixOf s)) ∧ w = w' := by
  go_enter Tryz.func22, Tryz.ntmps22
  go_wp2
  · go_ret
    refine ⟨ret_bool ?_, rfl⟩
    rw [Bool.eq_iff_iff, List.isPrefixOf_iff_prefix, List.prefix_iff_eq_take, beq_iff_eq]
    exact eq_comm
  · go_ret
    refine ⟨ret_bool ?_, rfl⟩
    have hlt : ¬ t.length ≤ s.length := by assumption
    rw [Bool.eq_iff_iff, List.isPrefixOf_iff_prefix]
    simp
    intro h; exact hlt h.length_le

set_option maxHeartbeats 2000000 in
theorem element_any (s : List UInt8) (w : World) (hs : s.length ≤ maxLen) :
    Calls Tryz.prog 20 #[.string (S s)] w fun e w' => e = .returned (.bool (elementB s)) ∧ w = w' := by
  have hb := Lib.hid (fun w => beginsR_any s [46, 119, 104, 46] w)
  unfold maxLen at hs
  by_cases e0 : s = []
  · subst e0
    go_enter Tryz.func20, Tryz.ntmps20
    go_wp2_with (go_at_call 22; refine (hb.out _).mono ?_; rintro e w' ⟨rfl, rfl⟩)
    go_ret
    exact ⟨rfl, rfl⟩
  replace e0 : s.isEmpty = false := by cases s <;> simp_all
  by_cases h1 : 60 < s.length
  · have HE := Lib.hid (show elementB s = false by simp [elementB, show ¬ s.length ≤ 60 by omega])
    go_enter Tryz.func20, Tryz.ntmps20
    go_wp2_with (go_at_call 22; refine (hb.out _).mono ?_; rintro e w' ⟨rfl, rfl⟩)
    go_ret
    exact ⟨ret_bool HE.out.symm, rfl⟩
  replace h1 : s.length ≤ 60 := by omega
  by_cases h2 : (s == [46]) = true
  · have HE := Lib.hid (show elementB s = false by simp [elementB, h2])
    go_enter Tryz.func20, Tryz.ntmps20
    go_wp2_with (go_at_call 22; refine (hb.out _).mono ?_; rintro e w' ⟨rfl, rfl⟩)
    go_ret
    exact ⟨ret_bool HE.out.symm, rfl⟩
  replace h2 : (s == [46]) = false := by simpa using h2
  by_cases h3 : (s == [46, 46]) = true
  · have HE := Lib.hid (show elementB s = false by simp [elementB, h3])
    go_enter Tryz.func20, Tryz.ntmps20
    go_wp2_with (go_at_call 22; refine (hb.out _).mono ?_; rintro e w' ⟨rfl, rfl⟩)
    go_ret
    exact ⟨ret_bool HE.out.symm, rfl⟩
  replace h3 : (s == [46, 46]) = false := by simpa using h3
  by_cases h4 : ([46, 119, 104, 46].isPrefixOf s) = true
  · have HE := Lib.hid (show elementB s = false by simp only [elementB, h4]; simp)
    go_enter Tryz.func20, Tryz.ntmps20
    go_wp2_with (go_at_call 22; refine (hb.out _).mono ?_; rintro e w' ⟨rfl, rfl⟩)
    go_ret
    exact ⟨ret_bool HE.out.symm, rfl⟩
  replace h4 : ([46, 119, 104, 46].isPrefixOf s) = false := by cases h : [46, 119, 104, 46].isPrefixOf s <;> simp_all
  have HE := Lib.hid (show elementB s = s.all classB by simp only [elementB, h1, h2, h3, h4, e0]; simp)
  go_enter Tryz.func20, Tryz.ntmps20
  go_wp2_with (go_at_call 22; refine (hb.out _).mono ?_; rintro e w' ⟨rfl, rfl⟩)
  go_loop [4] (fun i => ∃ k : Nat, k ≤ s.length ∧ i = .int .i64 k ∧ Hid ((s.take k).all classB = true)) (fun i => s.length - (intOf i).toNat)
  case atStart => exact ⟨0, by omega, rfl, by simp [Hid]⟩
  case round =>
    obtain ⟨k, hk, rfl, hall⟩ := hrel
    by_cases hlt : k < s.length
    · have HC := Lib.hid (classB_iff s[k])
      by_cases hcl : classB s[k] = true
      · have HA := Lib.hid (show (s.take (k + 1)).all classB = true by rw [all_snoc _ _ _ hlt, hall.out, hcl]; rfl)
        have hci := HC.out.1 hcl
        clear hcl HC hall
        go_wp2
        all_goals first
          | (go_round; (case rel => exact ⟨k + 1, by omega, by go_num, HA⟩); (case measure => simp [intOf]; omega))
          | (exfalso; simp only [Bool.not_eq_true', Bool.not_eq_false', bne_iff_ne, bne_eq_false_iff_eq, decide_eq_true_eq, decide_eq_false_iff_not, ne_eq] at *; omega)
      · have HA := Lib.hid (show s.all classB = false by rw [List.all_eq_false]; exact ⟨s[k], List.getElem_mem hlt, hcl⟩)
        have hci : ¬ _ := fun h => hcl (HC.out.2 h)
        clear hcl HC hall
        go_wp2
        all_goals first
          | (go_ret; exact ⟨ret_bool (HE.out.trans HA.out).symm, rfl⟩)
          | (exfalso; simp only [Bool.not_eq_true', Bool.not_eq_false', bne_iff_ne, bne_eq_false_iff_eq, decide_eq_true_eq, decide_eq_false_iff_not, ne_eq] at *; omega)
    · have HA := Lib.hid (show s.all classB = true by have := hall.out; rwa [List.take_of_length_le (Nat.le_of_not_lt hlt)] at this)
      replace hlt : s.length ≤ k := by omega
      go_wp2
      go_ret
      exact ⟨ret_bool (HE.out.trans HA.out).symm, rfl⟩

end Go.Proofs.YtkooakadckjpkaaGreatDoor
