/-
  The document's answer: elements joined, the parts of a path, what is a path.
-/
import Derived.Test.YtkooakadckjpkaaGreatDoorRefA
import Derived.Test.YtkooakadckjpkaaGreatDoorRefB
namespace Go.Proofs.YtkooakadckjpkaaGreatDoor
open Go.RowKit

set_option maxHeartbeats 1000000 in
theorem joined_any (l : List (List UInt8)) (A : Option Addr) (cap : Nat) (w : World) (hr : Rd w A (strs l)) (hl : l.length ≤ 4294967290) (hs : lensB l ≤ 4294967290) :
    Calls Tryz.prog 60 #[.slice A l.length cap] w fun e w' => e = .returned (.string (S (joinB l))) ∧ w = w' := by
  go_enter Tryz.func60, Tryz.ntmps60
  go_wp2
  go_loop [3, 4] (fun v i => ∃ k : Nat, k ≤ l.length ∧ i = .int .i64 k ∧ v = .string (S (joinB (l.take k)))) (fun _ i => l.length - (intOf i).toNat)
  case atStart => exact ⟨0, Nat.zero_le _, rfl, rfl⟩
  case round =>
    obtain ⟨k, hk, rfl, rfl⟩ := hrel
    by_cases hlt : k < l.length
    · obtain ⟨b, o, rfl, hb, hc⟩ := hr.at k (by simpa [strs] using hlt)
      have hck := hc k _ (strs_get hlt)
      have h1 := joinB_len (l.take k)
      have h2 := lensB_get l k hlt
      have X1 := Lib.hid (joinB_take1 l k hlt)
      have X0 := Lib.hid (joinB_take0 l k hlt)
      clear hc hr
      go_wp2
      all_goals
        go_round
        case rel =>
          refine ⟨k + 1, by omega, by go_num, str_eq ?_⟩
          first | exact (X1.out (by assumption)).symm | exact (X0.out (by assumption)).symm
        case measure => simp [intOf]; omega
    · obtain rfl : k = l.length := by omega
      go_wp2
      go_ret
      exact ⟨ret_str (by simp), rfl⟩

theorem parts_any (s : List UInt8) (w : World) (hs : s.length ≤ 4294967280) :
    Calls Tryz.prog 19 #[.string (S s)] w fun e w' => ∃ v, e = .returned v ∧ w'.ownsRow w.heap.size 9 1 v (partsB s).length (strs (partsB s)) ∧ Below w.heap.size w w' := by
  by_cases h0 : s = []
  · subst h0
    go_enter Tryz.func19, Tryz.ntmps19
    go_wp2
    go_ret
    exact ⟨_, rfl, World.ownsRow_nil _ _ _ _, Below.refl _ _⟩
  · have e0 : s.isEmpty = false := by cases s <;> simp_all
    have X := Lib.hid (show partsB s = cutB 47 s by simp [partsB, h0])
    go_enter Tryz.func19, Tryz.ntmps19
    go_wp2_with (go_at_call 39; refine (cut_any s 47 47 rfl _ hs).mono ?_; rintro e w1 ⟨v, rfl, hown, hb⟩)
    go_ret
    exact ⟨_, rfl, by rw [X.out]; exact hown, hb⟩

set_option maxHeartbeats 1000000 in
theorem isPath_any (s : List UInt8) (w : World) (hs : s.length ≤ 4294967280) :
    Calls Tryz.prog 9 #[.string (S s)] w fun e w' => e = .returned (.bool (pathB s)) ∧ Below w.heap.size w w' := by
  have hpl := partsB_len s
  by_cases h1 : s.length ≤ 170 ∧ (partsB s).length ≤ 12
  case neg =>
    have X := Lib.hid (show pathB s = false by unfold pathB; rw [← Bool.decide_and, decide_eq_false h1]; rfl)
    by_cases h2 : 170 < s.length
    all_goals
      have h3 : 170 < s.length ∨ 12 < (partsB s).length := by omega
      clear h1
      go_enter Tryz.func9, Tryz.ntmps9
      go_wp2_with (go_at_call 19; refine (parts_any s _ hs).mono ?_; rintro e w1 ⟨v, rfl, hown, hb⟩; obtain ⟨A, cap, rfl, _, _, hrd⟩ := Rd.of_own hown; clear hown)
      go_ret
      exact ⟨ret_bool X.out.symm, hb⟩
  obtain ⟨h2, h3⟩ := h1
  have X := Lib.hid (show pathB s = (partsB s).all elementB by unfold pathB; rw [decide_eq_true h2, decide_eq_true h3]; rfl)
  go_enter Tryz.func9, Tryz.ntmps9
  go_wp2_with (go_at_call 19; refine (parts_any s _ hs).mono ?_; rintro e w1 ⟨v, rfl, hown, hb⟩; obtain ⟨A, cap, rfl, _, _, hrd⟩ := Rd.of_own hown; clear hown)
  generalize hL : partsB s = L at *
  have HL := Lib.hid hL
  clear hL
  go_loop [4] (fun i => ∃ k : Nat, k ≤ L.length ∧ i = .int .i64 k ∧ Hid ((L.take k).all elementB = true)) (fun i => L.length - (intOf i).toNat)
  case atStart => exact ⟨0, Nat.zero_le _, rfl, rfl⟩
  case round =>
    obtain ⟨k, hk, rfl, hall⟩ := hrel
    by_cases hlt : k < L.length
    · obtain ⟨b, o, rfl, hbb, hc⟩ := hrd.at k (by simpa [strs] using hlt)
      have hck := hc k _ (strs_get hlt)
      have hel : L[k].length ≤ maxLen := by
        have := lensB_get L k hlt
        have h4 : lensB L ≤ s.length + 1 := by
          rw [← HL.out]; unfold partsB; split
          · simp [lensB]
          · exact lensB_cut _ _
        unfold maxLen; omega
      cases hE : elementB L[k]
      · have Y := Lib.hid (show L.all elementB = false by rw [List.all_eq_false]; exact ⟨L[k], List.getElem_mem hlt, by simp [hE]⟩)
        clear hc hrd hall
        go_wp2_with (go_at_call 20; refine (element_any L[k] _ hel).mono ?_; rintro e w2 ⟨rfl, rfl⟩)
        go_ret
        exact ⟨ret_bool (by rw [X.out, Y.out]), hb⟩
      · have Y := Lib.hid (show (L.take (k + 1)).all elementB = true by rw [all_snoc _ _ _ hlt, hall.out, hE]; rfl)
        clear hc hrd hall
        go_wp2_with (go_at_call 20; refine (element_any L[k] _ hel).mono ?_; rintro e w2 ⟨rfl, rfl⟩)
        go_round
        case rel => exact ⟨k + 1, by omega, by go_num, Y⟩
        case measure => simp [intOf]; omega
    · obtain rfl : k = L.length := by omega
      have Y := Lib.hid (show L.all elementB = true by have := hall.out; rwa [List.take_length] at this)
      clear hall
      go_wp2
      go_ret
      exact ⟨ret_bool (by rw [X.out, Y.out]), hb⟩
end Go.Proofs.YtkooakadckjpkaaGreatDoor
