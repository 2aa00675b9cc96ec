/-
  The program's paths: each call computes its Lean word.
  The program's paths: parts, and what is a path.
-/
import Derived.Lib.SplitLaws
import Derived.Test.YtjampkdbieoboaaGreatDoorY02
import Derived.Test.YtjampkdbieoboaaGreatDoorShelf
set_option linter.unusedVariables false
set_option linter.unusedSimpArgs false
namespace Go.Proofs.YtjampkdbieoboaaGreatDoor
open Go.RowKit

theorem class_any (b : UInt8) (w : World) :
    Calls Tryz.prog 63 #[.int .u8 b.toNat] w fun e w' => e = .returned (.bool (classB b)) ∧ w = w' := by
  have hb := u8_lt b
  have h0 : (0 : Int) ≤ (b.toNat : Int) := by omega
  have hi := classB_iff b
  generalize (b.toNat : Int) = c at *
  cases hc : classB b
  · have hci : ¬ _ := fun h => absurd (hi.2 h) (by simp [hc])
    clear hc hi
    go_enter Tryz.func63, Tryz.ntmps63
    go_wp2
    all_goals first
      | (go_ret; exact ⟨rfl, rfl⟩)
      | (exfalso; simp only [Bool.not_eq_true', Bool.not_eq_false', bne_iff_ne, bne_eq_false_iff_eq, decide_eq_true_eq, decide_eq_false_iff_not, ne_eq] at *; omega)
  · have hci := hi.1 hc
    clear hc hi
    go_enter Tryz.func63, Tryz.ntmps63
    go_wp2
    all_goals first
      | (go_ret; exact ⟨rfl, rfl⟩)
      | (exfalso; simp only [Bool.not_eq_true', Bool.not_eq_false', bne_iff_ne, bne_eq_false_iff_eq, decide_eq_true_eq, decide_eq_false_iff_not, ne_eq] at *; omega)

theorem hasPrefixT_any (s p : List UInt8) (w : World) :
    Calls Tryz.prog 37 #[.string (S s), .string (S p)] w fun e w' => e = .returned (.bool (p.isPrefixOf s)) ∧ w = w' :=
  (Tryz.strings_HasPrefix (S s) (S p) w).mono fun e w' ⟨he, hw⟩ => ⟨by rw [he, S_data, S_data]; rfl, hw.symm⟩

set_option maxHeartbeats 2000000 in
theorem elementP_any (s : List UInt8) (w : World) (hs : s.length ≤ maxLen) :
    Calls Tryz.prog 50 #[.string (S s)] w fun e w' => e = .returned (.bool (elementB s)) ∧ w = w' := by
  have hb := Lib.hid (fun w => hasPrefixT_any s [46, 119, 104, 46] w)
  unfold maxLen at hs
  by_cases e0 : s = []
  · subst e0
    go_enter Tryz.func50, Tryz.ntmps50
    go_wp2_with (go_at_call 37; refine (hb.out _).mono ?_; rintro e w' ⟨rfl, rfl⟩)
    go_ret
    exact ⟨rfl, rfl⟩
  replace e0 : s.isEmpty = false := by cases s <;> simp_all
  by_cases h1 : 60 < s.length
  · have HE := Lib.hid (show elementB s = false by simp [elementB, show ¬ s.length ≤ 60 by omega])
    go_enter Tryz.func50, Tryz.ntmps50
    go_wp2_with (go_at_call 37; refine (hb.out _).mono ?_; rintro e w' ⟨rfl, rfl⟩)
    go_ret
    exact ⟨ret_bool HE.out.symm, rfl⟩
  replace h1 : s.length ≤ 60 := by omega
  by_cases h2 : (s == [46]) = true
  · have HE := Lib.hid (show elementB s = false by simp [elementB, h2])
    go_enter Tryz.func50, Tryz.ntmps50
    go_wp2_with (go_at_call 37; refine (hb.out _).mono ?_; rintro e w' ⟨rfl, rfl⟩)
    go_ret
    exact ⟨ret_bool HE.out.symm, rfl⟩
  replace h2 : (s == [46]) = false := by simpa using h2
  by_cases h3 : (s == [46, 46]) = true
  · have HE := Lib.hid (show elementB s = false by simp [elementB, h3])
    go_enter Tryz.func50, Tryz.ntmps50
    go_wp2_with (go_at_call 37; refine (hb.out _).mono ?_; rintro e w' ⟨rfl, rfl⟩)
    go_ret
    exact ⟨ret_bool HE.out.symm, rfl⟩
  replace h3 : (s == [46, 46]) = false := by simpa using h3
  by_cases h4 : ([46, 119, 104, 46].isPrefixOf s) = true
  · have HE := Lib.hid (show elementB s = false by simp only [elementB, h4]; simp)
    go_enter Tryz.func50, Tryz.ntmps50
    go_wp2_with (go_at_call 37; refine (hb.out _).mono ?_; rintro e w' ⟨rfl, rfl⟩)
    go_ret
    exact ⟨ret_bool HE.out.symm, rfl⟩
  replace h4 : ([46, 119, 104, 46].isPrefixOf s) = false := by cases h : [46, 119, 104, 46].isPrefixOf s <;> simp_all
  have HE := Lib.hid (show elementB s = s.all classB by simp only [elementB, h1, h2, h3, h4, e0]; simp)
  go_enter Tryz.func50, Tryz.ntmps50
  go_wp2_with (go_at_call 37; refine (hb.out _).mono ?_; rintro e w' ⟨rfl, rfl⟩)
  go_loop [25] (fun i => ∃ k : Nat, k ≤ s.length ∧ i = .int .i64 k ∧ Hid ((s.take k).all classB = true)) (fun i => s.length - (intOf i).toNat)
  case atStart => exact ⟨0, by omega, rfl, by simp [Hid]⟩
  case round =>
    obtain ⟨k, hk, rfl, hall⟩ := hrel
    by_cases hlt : k < s.length
    · cases hcl : classB s[k]
      · have HA := Lib.hid (show s.all classB = false by rw [List.all_eq_false]; exact ⟨s[k], List.getElem_mem hlt, by simp [hcl]⟩)
        have HC := Lib.hid hcl
        clear hcl hall
        go_wp2_with (go_at_call 63; refine (class_any s[k] _).mono ?_; rintro e w' ⟨rfl, rfl⟩; rw [HC.out])
        go_ret
        exact ⟨ret_bool (HE.out.trans HA.out).symm, rfl⟩
      · have HA := Lib.hid (show (s.take (k + 1)).all classB = true by rw [all_snoc _ _ _ hlt, hall.out, hcl]; rfl)
        have HC := Lib.hid hcl
        clear hcl hall
        go_wp2_with (go_at_call 63; refine (class_any s[k] _).mono ?_; rintro e w' ⟨rfl, rfl⟩; rw [HC.out])
        go_round
        case rel => exact ⟨k + 1, by omega, by go_num, HA⟩
        case measure => simp [intOf]; omega
    · have HA := Lib.hid (show s.all classB = true by have := hall.out; rwa [List.take_of_length_le (Nat.le_of_not_lt hlt)] at this)
      replace hlt : s.length ≤ k := by omega
      go_wp2
      go_ret
      exact ⟨ret_bool (HE.out.trans HA.out).symm, rfl⟩
end Go.Proofs.YtjampkdbieoboaaGreatDoor
namespace Go.Proofs.YtjampkdbieoboaaGreatDoor
open Go.RowKit

theorem splitK_ne (c x : UInt8) (r : List UInt8) (h : x ≠ c) (n : Nat) : Lib.splitK [c] 0 n (x :: r) = match Lib.splitK [c] 0 n r with
    | [] => [[x]]
    | a :: t => (x :: a) :: t := by
  cases n with
  | zero => rfl
  | succ n =>
    have hi : Lib.index (x :: r) [c] = if Lib.index r [c] == -1 then -1 else Lib.index r [c] + 1 := by
      rw [Lib.index, if_neg]
      simp [List.isPrefixOf]; exact fun e => h e.symm
    have hg := Lib.index_ge r [c]
    unfold Lib.splitK
    rw [hi]
    by_cases h1 : Lib.index r [c] = -1
    · simp [h1]
    · have h2 : (Lib.index r [c] == -1) = false := by simpa using h1
      have h3 : (Lib.index r [c] + 1 == -1) = false := by simp; omega
      simp only [h2, h3, Bool.false_eq_true, if_false]
      obtain ⟨i, hi⟩ := Int.eq_ofNat_of_zero_le (show 0 ≤ Lib.index r [c] by omega)
      rw [hi]
      simp only [Nat.add_zero, show ((i : Int) + 1).toNat = i + 1 by omega, show (i : Int).toNat = i by omega, List.take_succ_cons]
      rw [show i + 1 + [c].length = (i + [c].length) + 1 by omega, List.drop_succ_cons]
theorem split_cut (c : UInt8) (s : List UInt8) : Lib.splitK [c] 0 (Lib.count s [c]) s = cutB c s := by
  induction s with
  | nil => simp [Lib.count, Lib.countFrom, Lib.splitK, Lib.index, cutB]
  | cons x r ih =>
    by_cases h : x = c
    · subst h
      rw [Lib.count_cons_eq, Nat.add_comm, Lib.splitK]
      have : Lib.index (x :: r) [x] = 0 := by rw [Lib.index, if_pos (by simp [List.isPrefixOf])]
      rw [this, cutB, if_pos rfl]
      simp [ih]
    · rw [Lib.count_cons_ne _ _ _ h, splitK_ne _ _ _ h, ih, cutB, if_neg h]
      cases cutB c r <;> rfl

theorem split_any (s : List UInt8) (b : UInt8) (w : World) (hw : Std w) (hs : s.length ≤ 4294967280) :
    Calls Tryz.prog 62 #[.string (S s), .string (S [b])] w fun e w' => ∃ v, e = .returned v ∧ w'.ownsRow w.heap.size 9 1 v (cutB b s).length (strs (cutB b s)) ∧ Below w.heap.size w w' := by
  obtain ⟨m, hm⟩ := hw.maxlen
  refine (Tryz.strings_Split (S s) (S [b]) m w (by rw [S_size]; omega) hm (by rw [S_size]; simp)).mono fun e w' ⟨he, hw⟩ => ?_
  have e0 : (Lib.splitB (S [b]) 0 (Lib.countB (S s) (S [b])) (S s)).map Value.string = strs (cutB b s) := by
    have h1 := Lib.splitB_data (S [b]) 0 (Lib.countB (S s) (S [b])) (S s)
    rw [S_data, S_data, show Lib.countB (S s) (S [b]) = Lib.count s [b] by rw [Lib.countB, S_data, S_data], split_cut] at h1
    rw [← h1, strs, List.map_map]
    apply List.map_congr_left
    intro x _
    simp [S_of]
  have e1 : Lib.countB (S s) (S [b]) + 1 = (cutB b s).length := by
    have h1 := Lib.splitB_all (S [b]) (by rw [S_size]; simp) 0 _ (S s) rfl
    rw [← h1, ← List.length_map (f := Value.string), e0, strs_len]
  refine ⟨_, he, ?_, ?_⟩
  · rw [hw, e0, e1]
    have hl := cutB_len b s
    have := World.ownsRow_lit (base := w.heap.size) (e := 9) (size := 1) w (strs (cutB b s)).toArray (cutB b s).length (Nat.le_refl _) (by unfold maxLen; omega) (by simp [strs_len])
    simpa using this
  · rw [hw]; exact (Below.refl _ _).alloc (Nat.le_refl _) _

theorem partsP_any (s : List UInt8) (w : World) (hw : Std w) (hs : s.length ≤ 4294967280) :
    Calls Tryz.prog 49 #[.string (S s)] w fun e w' => ∃ v, e = .returned v ∧ w'.ownsRow w.heap.size 9 1 v (partsB s).length (strs (partsB s)) ∧ Below w.heap.size w w' := by
  by_cases h0 : s = []
  · subst h0
    go_enter Tryz.func49, Tryz.ntmps49
    go_wp2
    go_ret
    exact ⟨_, rfl, World.ownsRow_nil _ _ _ _, Below.refl _ _⟩
  · have e0 : s.isEmpty = false := by cases s <;> simp_all
    have X := Lib.hid (show partsB s = cutB 47 s by simp [partsB, h0])
    have HS := Lib.hid hw
    clear hw
    go_enter Tryz.func49, Tryz.ntmps49
    go_wp2_with (go_at_call 62; refine (split_any s 47 _ HS.out hs).mono ?_; rintro e w1 ⟨v, rfl, hown, hb⟩)
    go_ret
    exact ⟨_, rfl, by rw [X.out]; exact hown, hb⟩

theorem partsB_lens (s : List UInt8) : lensB (partsB s) ≤ s.length + 1 := by
  unfold partsB; split
  · simp [lensB]
  · exact lensB_cut _ _

set_option maxHeartbeats 1000000 in
theorem pathP_any (s : List UInt8) (w : World) (hw : Std w) (hs : s.length ≤ 4294967280) :
    Calls Tryz.prog 33 #[.string (S s)] w fun e w' => e = .returned (.bool (pathB s)) ∧ Below w.heap.size w w' := by
  have hpl := partsB_len s
  have HS := Lib.hid hw
  clear hw
  by_cases h1 : s.length ≤ 170 ∧ (partsB s).length ≤ 12
  case neg =>
    have X := Lib.hid (show pathB s = false by unfold pathB; rw [← Bool.decide_and, decide_eq_false h1]; rfl)
    by_cases h2 : 170 < s.length
    all_goals
      have h3 : 170 < s.length ∨ 12 < (partsB s).length := by omega
      clear h1
      go_enter Tryz.func33, Tryz.ntmps33
      go_wp2_with (go_at_call 49; refine (partsP_any s _ HS.out hs).mono ?_; rintro e w1 ⟨v, rfl, hown, hb⟩; obtain ⟨A, cap, rfl, _, _, hrd⟩ := Rd.of_own hown; clear hown)
      go_ret
      exact ⟨ret_bool X.out.symm, hb⟩
  obtain ⟨h2, h3⟩ := h1
  have X := Lib.hid (show pathB s = (partsB s).all elementB by unfold pathB; rw [decide_eq_true h2, decide_eq_true h3]; rfl)
  go_enter Tryz.func33, Tryz.ntmps33
  go_wp2_with (go_at_call 49; refine (partsP_any s _ HS.out hs).mono ?_; rintro e w1 ⟨v, rfl, hown, hb⟩; obtain ⟨A, cap, rfl, _, _, hrd⟩ := Rd.of_own hown; clear hown)
  generalize hL : partsB s = L at *
  have HL := Lib.hid hL
  clear hL
  go_loop [18] (fun i => ∃ k : Nat, k ≤ L.length ∧ i = .int .i64 k ∧ Hid ((L.take k).all elementB = true)) (fun i => L.length - (intOf i).toNat)
  case atStart => exact ⟨0, Nat.zero_le _, rfl, rfl⟩
  case round =>
    obtain ⟨k, hk, rfl, hall⟩ := hrel
    by_cases hlt : k < L.length
    · obtain ⟨b, o, rfl, hbb, hc⟩ := hrd.at k (by simpa [strs] using hlt)
      have hck := hc k _ (strs_get hlt)
      have hel : L[k].length ≤ maxLen := by
        have := lensB_get L k hlt
        have h4 : lensB L ≤ s.length + 1 := by rw [← HL.out]; exact partsB_lens s
        unfold maxLen; omega
      cases hE : elementB L[k]
      · have Y := Lib.hid (show L.all elementB = false by rw [List.all_eq_false]; exact ⟨L[k], List.getElem_mem hlt, by simp [hE]⟩)
        have HE := Lib.hid hE
        clear hc hrd hall hE
        go_wp2_with (go_at_call 50; refine (elementP_any L[k] _ hel).mono ?_; rintro e w2 ⟨rfl, rfl⟩; rw [HE.out])
        go_ret
        exact ⟨ret_bool (by rw [X.out, Y.out]), hb⟩
      · have Y := Lib.hid (show (L.take (k + 1)).all elementB = true by rw [all_snoc _ _ _ hlt, hall.out, hE]; rfl)
        have HE := Lib.hid hE
        clear hc hrd hall hE
        go_wp2_with (go_at_call 50; refine (elementP_any L[k] _ hel).mono ?_; rintro e w2 ⟨rfl, rfl⟩; rw [HE.out])
        go_round
        case rel => exact ⟨k + 1, by omega, by go_num, Y⟩
        case measure => simp [intOf]; omega
    · obtain rfl : k = L.length := by omega
      have Y := Lib.hid (show L.all elementB = true by have := hall.out; rwa [List.take_length] at this)
      clear hall
      go_wp2
      go_ret
      exact ⟨ret_bool (by rw [X.out, Y.out]), hb⟩
end Go.Proofs.YtjampkdbieoboaaGreatDoor
