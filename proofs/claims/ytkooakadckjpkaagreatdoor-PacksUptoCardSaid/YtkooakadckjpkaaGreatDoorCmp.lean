/-
  The program's paths in tree order: cmp.Compare at texts, slices.Compare, tree.Compare: the walks.
-/
import Derived.Test.YtkooakadckjpkaaGreatDoorOwnC
namespace Go.Proofs.YtkooakadckjpkaaGreatDoor
open Go.RowKit

theorem isNaN_any (s : List UInt8) (w : World) :
    Calls Tryz.prog 73 #[.string (S s)] w fun e w' => e = .returned (.bool false) ∧ w' = w := by
  go_enter Tryz.func73, Tryz.ntmps73
  go_wp2
  go_ret
  exact ⟨by simp, rfl⟩
theorem cmpS_lt {a b : List UInt8} (h : a < b) : cmpS a b = -1 := by unfold cmpS; rw [if_pos h]
theorem cmpS_gt {a b : List UInt8} (h : b < a) : cmpS a b = 1 := by
  unfold cmpS
  rw [if_neg (fun h2 => List.lt_irrefl a (List.lt_trans h2 h)), if_pos h]
theorem cmpS_eq {a b : List UInt8} (h1 : ¬ a < b) (h2 : ¬ b < a) : cmpS a b = 0 := by unfold cmpS; rw [if_neg h1, if_neg h2]
set_option maxHeartbeats 1000000 in
theorem cmpP_any (a b : List UInt8) (w : World) :
    Calls Tryz.prog 63 #[.string (S a), .string (S b)] w fun e w' => e = .returned (.int .i64 (cmpS a b)) ∧ w' = w := by
  have l1 := less_eq a b
  have l2 := less_eq b a
  by_cases h1 : a < b
  · have Y := Lib.hid (cmpS_lt h1)
    rw [decide_eq_true h1] at l1
    clear h1
    go_enter Tryz.func63, Tryz.ntmps63
    go_wp2_with (go_at_call 73; refine (isNaN_any _ _).mono ?_; rintro e1 w1 ⟨rfl, rfl⟩)
    go_ret
    exact ⟨ret_int Y.out.symm, rfl⟩
  · by_cases h2 : b < a
    · have Y := Lib.hid (cmpS_gt h2)
      have e1 : (a == b) = false := by rw [beq_eq_false_iff_ne]; intro e; subst e; exact h1 h2
      rw [decide_eq_false h1] at l1
      rw [decide_eq_true h2] at l2
      clear h1 h2
      go_enter Tryz.func63, Tryz.ntmps63
      go_wp2_with (go_at_call 73; refine (isNaN_any _ _).mono ?_; rintro e1 w1 ⟨rfl, rfl⟩)
      go_ret
      exact ⟨ret_int Y.out.symm, rfl⟩
    · have Y := Lib.hid (cmpS_eq h1 h2)
      have e1 : (a == b) = true := by rw [beq_iff_eq]; exact List.le_antisymm (List.not_lt.1 h2) (List.not_lt.1 h1)
      rw [decide_eq_false h1] at l1
      rw [decide_eq_false h2] at l2
      clear h1 h2
      go_enter Tryz.func63, Tryz.ntmps63
      go_wp2_with (go_at_call 73; refine (isNaN_any _ _).mono ?_; rintro e1 w1 ⟨rfl, rfl⟩)
      go_ret
      exact ⟨ret_int Y.out.symm, rfl⟩

theorem compareL_end {X Y : List (List UInt8)} {k : Nat} (h : k < X.length) (h2 : k = Y.length) : compareL (X.drop k) (Y.drop k) = 1 := by
  rw [List.drop_eq_getElem_cons h, List.drop_eq_nil_of_le (by omega : Y.length ≤ k)]; rfl
theorem compareL_at {X Y : List (List UInt8)} {k : Nat} (h : k < X.length) (h2 : k < Y.length) : compareL (X.drop k) (Y.drop k) = (if X[k] < Y[k] then -1 else if Y[k] < X[k] then 1 else compareL (X.drop (k + 1)) (Y.drop (k + 1))) := by
  rw [List.drop_eq_getElem_cons h, List.drop_eq_getElem_cons h2]; rfl
theorem compareL_out {X Y : List (List UInt8)} {k : Nat} (h : k = X.length) : compareL (X.drop k) (Y.drop k) = if k < Y.length then -1 else 0 := by
  rw [List.drop_eq_nil_of_le (by omega : X.length ≤ k)]
  split
  · rename_i h2
    rw [List.drop_eq_getElem_cons h2]; rfl
  · rw [List.drop_eq_nil_of_le (by omega : Y.length ≤ k)]; rfl

set_option maxHeartbeats 2000000 in
theorem sliceCmp_any (X Y : List (List UInt8)) (A B : Option Addr) (n m ca cb : Nat) (w : World) (hn : X.length = n) (hm : Y.length = m) (hx : Rd w A (strs X)) (hy : Rd w B (strs Y)) (hl : X.length ≤ 4294967290) (hl2 : Y.length ≤ 4294967290) :
    Calls Tryz.prog 46 #[.slice A n ca, .slice B m cb] w fun e w' => e = .returned (.int .i64 (compareL X Y)) ∧ w' = w := by
  subst hn
  subst hm
  have HX := Lib.hid hx
  have HY := Lib.hid hy
  clear hx hy
  go_enter Tryz.func46, Tryz.ntmps46
  go_wp2
  go_loop [11] (fun i => ∃ k : Nat, k ≤ X.length ∧ k ≤ Y.length ∧ i = .int .i64 k ∧ Hid (compareL X Y = compareL (X.drop k) (Y.drop k))) (fun i => X.length - (intOf i).toNat)
  case atStart => exact ⟨0, by omega, by omega, rfl, rfl⟩
  case round =>
    obtain ⟨k, hk, hk2, rfl, HQ⟩ := hrel
    by_cases hlt : k < X.length
    · obtain ⟨b, o, rfl, hb, hc⟩ := HX.out.at k (by rw [strs_len]; exact hlt)
      have a0 := hc k _ (strs_get hlt)
      have hkl : (k : Int) < (X.length : Int) := by omega
      clear hc
      by_cases h2 : k < Y.length
      · obtain ⟨b2, o2, rfl, hb2, hc2⟩ := HY.out.at k (by rw [strs_len]; exact h2)
        have a1 := hc2 k _ (strs_get h2)
        have hkm : (k : Int) < (Y.length : Int) := by omega
        have HE := Lib.hid (compareL_at hlt h2)
        clear hc2
        obtain ⟨x, hx⟩ : ∃ x, x = X[k] := ⟨_, rfl⟩
        obtain ⟨y, hy⟩ : ∃ y, y = Y[k] := ⟨_, rfl⟩
        rw [← hx, ← hy] at HE
        rw [← hx] at a0
        rw [← hy] at a1
        clear hx hy
        have HCm := Lib.hid (cmpP_any x y)
        by_cases l1 : x < y
        · have HR := Lib.hid (show compareL X Y = -1 by rw [HQ.out, HE.out, if_pos l1])
          have HC := Lib.hid (cmpS_lt l1)
          clear l1
          go_wp2_with (go_at_call 63; refine (HCm.out _).mono ?_; rintro e1 w1 ⟨rfl, rfl⟩; rw [HC.out])
          go_ret
          exact ⟨ret_int HR.out.symm, rfl⟩
        · by_cases l2 : y < x
          · have HR := Lib.hid (show compareL X Y = 1 by rw [HQ.out, HE.out, if_neg l1, if_pos l2])
            have HC := Lib.hid (cmpS_gt l2)
            clear l1 l2
            go_wp2_with (go_at_call 63; refine (HCm.out _).mono ?_; rintro e1 w1 ⟨rfl, rfl⟩; rw [HC.out])
            go_ret
            exact ⟨ret_int HR.out.symm, rfl⟩
          · have HR := Lib.hid (show compareL X Y = compareL (X.drop (k + 1)) (Y.drop (k + 1)) by rw [HQ.out, HE.out, if_neg l1, if_neg l2])
            have HC := Lib.hid (cmpS_eq l1 l2)
            clear l1 l2
            go_wp2_with (go_at_call 63; refine (HCm.out _).mono ?_; rintro e1 w1 ⟨rfl, rfl⟩; rw [HC.out])
            go_round
            case rel => exact ⟨k + 1, by omega, by omega, by go_num, HR⟩
            case measure => simp [intOf]; omega
      · have HR := Lib.hid (show compareL X Y = 1 by rw [HQ.out]; exact compareL_end hlt (by omega))
        go_wp2
        go_ret
        exact ⟨ret_int HR.out.symm, rfl⟩
    · have HR := Lib.hid (show compareL X Y = if k < Y.length then -1 else 0 by rw [HQ.out]; exact compareL_out (by omega))
      obtain rfl : k = X.length := by omega
      by_cases h2 : X.length < Y.length
      · rw [if_pos h2] at HR
        go_wp2
        go_ret
        exact ⟨ret_int HR.out.symm, rfl⟩
      · rw [if_neg h2] at HR
        go_wp2
        go_ret
        exact ⟨ret_int HR.out.symm, rfl⟩

theorem compareP_any (a b : List UInt8) (w : World) (hw : Std w) (ha : a.length ≤ 4294967280) (hb : b.length ≤ 4294967280) :
    Calls Tryz.prog 28 #[.string (S a), .string (S b)] w fun e w' => e = .returned (.int .i64 (compareL (partsB a) (partsB b))) ∧ Below w.heap.size w w' := by
  have HS := Lib.hid hw
  have hla := partsB_len a
  have hlb := partsB_len b
  clear hw
  go_enter Tryz.func28, Tryz.ntmps28
  go_wp2_with fail
  refine (partsP_any a _ HS.out ha).mono ?_
  rintro e w1 ⟨v1, rfl, hown1, hb1⟩
  obtain ⟨A1, cap1, rfl, _, _, hrd1⟩ := Rd.of_own hown1
  have HB1 := Lib.hid hb1
  have HR1 := Lib.hid hrd1
  clear hown1 hrd1 hb1
  go_wp2_with fail
  refine (partsP_any b _ (HS.out.below HB1.out) hb).mono ?_
  rintro e w2 ⟨v2, rfl, hown2, hb2⟩
  obtain ⟨A2, cap2, rfl, _, _, hrd2⟩ := Rd.of_own hown2
  have HB2 := Lib.hid (HB1.out.trans (hb2.mono HB1.out.size))
  have HR2 := Lib.hid (HR1.out.below hb2)
  have HR3 := Lib.hid hrd2
  clear hown2 hrd2 hb2
  go_wp2_with fail
  refine (sliceCmp_any (partsB a) (partsB b) A1 A2 _ _ cap1 cap2 _ rfl rfl HR2.out HR3.out (by omega) (by omega)).mono ?_
  rintro e w3 ⟨rfl, rfl⟩
  go_wp2
  go_ret
  exact ⟨rfl, HB2.out⟩
end Go.Proofs.YtkooakadckjpkaaGreatDoor
