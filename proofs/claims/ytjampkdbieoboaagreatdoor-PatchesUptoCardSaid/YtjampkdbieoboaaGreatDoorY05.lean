/-
  The program's paths and entries: tree order, parents, joins, what may be an entry.
  The program's paths in tree order: cmp.Compare at texts, slices.Compare, tree.Compare: the walks.
-/
import Derived.Deep.QuietTactic
import Derived.BigQuiet
import Derived.WalkSmall
import Derived.Test.YtjampkdbieoboaaGreatDoorY03
import Derived.Test.YtjampkdbieoboaaGreatDoorY04
set_option linter.unusedVariables false
set_option linter.unusedSimpArgs false
namespace Go.Proofs.YtjampkdbieoboaaGreatDoor
open Go.RowKit

theorem joinP_any (a b : List UInt8) (w : World) (hs : a.length + b.length ≤ 9000000000) :
    Calls Tryz.prog 58 #[.string (S a), .string (S b)] w fun e w' => e = .returned (.string (S (inB a b))) ∧ w = w' := by
  by_cases h1 : a = []
  · subst h1
    go_enter Tryz.func58, Tryz.ntmps58
    go_wp2
    go_ret
    exact ⟨ret_str (by simp [inB]), rfl⟩
  have f1 : a.isEmpty = false := by cases a <;> simp_all
  by_cases h2 : b = []
  · subst h2
    have X := Lib.hid (show inB a [] = a by simp [inB])
    clear h1
    go_enter Tryz.func58, Tryz.ntmps58
    go_wp2
    go_ret
    exact ⟨ret_str (by rw [X.out]), rfl⟩
  have f2 : b.isEmpty = false := by cases b <;> simp_all
  have X := Lib.hid (show inB a b = a ++ 47 :: b by simp [inB, h1, h2])
  clear h1 h2
  go_enter Tryz.func58, Tryz.ntmps58
  go_wp2
  go_ret
  exact ⟨ret_str (by rw [X.out]), rfl⟩

set_option maxHeartbeats 1000000 in
theorem targetP_any (s : List UInt8) (w : World) (hs : s.length ≤ maxLen) :
    Calls Tryz.prog 51 #[.string (S s)] w fun e w' => e = .returned (.bool (targetB s)) ∧ w = w' := by
  unfold maxLen at hs
  go_enter Tryz.func51, Tryz.ntmps51
  go_wp2
  go_loop [6] (fun i => ∃ k : Nat, k ≤ s.length ∧ i = .int .i64 k ∧ Hid ((s.take k).all visC = true)) (fun i => s.length - (intOf i).toNat)
  case atStart => exact ⟨0, by omega, rfl, by simp [Hid]⟩
  case round =>
    obtain ⟨k, hk, rfl, hall⟩ := hrel
    by_cases hlt : k < s.length
    · have hi := visC_iff s[k]
      cases hc : visC s[k]
      · have HA := Lib.hid (show targetB s = false by
          have : s.all visC = false := by rw [List.all_eq_false]; exact ⟨s[k], List.getElem_mem hlt, by simp [hc]⟩
          rw [targetB, this]; rfl)
        have hn : ¬ (33 ≤ (s[k].toNat : Int) ∧ (s[k].toNat : Int) ≤ 126) := fun h => absurd (hi.2 h) (by simp [hc])
        clear hc hi hall
        by_cases h33 : (s[k].toNat : Int) < 33
        · clear hn
          go_wp2
          go_ret
          exact ⟨ret_bool HA.out.symm, rfl⟩
        · have h126 : 126 < (s[k].toNat : Int) := by omega
          clear hn
          go_wp2
          go_ret
          exact ⟨ret_bool HA.out.symm, rfl⟩
      · have HA := Lib.hid (show (s.take (k + 1)).all visC = true by rw [all_snoc _ _ _ hlt, hall.out, hc]; rfl)
        obtain ⟨h33, h126⟩ := hi.1 hc
        clear hc hi hall
        go_wp2
        go_round
        case rel => exact ⟨k + 1, by omega, by go_num, HA⟩
        case measure => simp [intOf]; omega
    · have HA := Lib.hid (show targetB s = (!s.isEmpty && decide (s.length ≤ 100)) by
        have := hall.out; rw [List.take_of_length_le (Nat.le_of_not_lt hlt)] at this; rw [targetB, this]; rfl)
      replace hlt : s.length ≤ k := by omega
      clear hall
      by_cases he : s = []
      · subst he
        go_wp2
        go_ret
        exact ⟨ret_bool (by rw [HA.out]; rfl), rfl⟩
      · have f1 : s.isEmpty = false := by cases s <;> simp_all
        clear he
        go_wp2
        go_ret
        exact ⟨ret_bool (by rw [HA.out, f1]; simp; omega), rfl⟩


set_option maxHeartbeats 2000000 in
theorem goodP_any (x : Ent) (w : World) (hs : x.data.length ≤ 4294967280) :
    Calls Tryz.prog 34 #[x.agg] w fun e w' => e = .returned (.bool (goodB x)) ∧ Below w.heap.size w w' := by
  obtain ⟨p, kind, mode, data⟩ := x
  simp only [Ent.agg] at *
  by_cases k1 : kind = 1
  · subst k1
    have X := Lib.hid (show goodB ⟨p, 1, mode, data⟩ = (modeE mode && data.isEmpty) by simp [goodB])
    by_cases m0 : 0 ≤ mode
    case neg =>
      have m1 : mode < 0 := by omega
      have X2 := Lib.hid (show goodB ⟨p, 1, mode, data⟩ = false by rw [X.out, modeE, decide_eq_false (by omega)]; rfl)
      clear m0 X
      go_enter Tryz.func34, Tryz.ntmps34
      go_wp2
      go_ret
      exact ⟨ret_bool (by rw [X2.out]), (Below.refl _ _).alloc (Nat.le_refl _) _⟩
    by_cases m1 : mode ≤ 511
    case neg =>
      have m2 : 511 < mode := by omega
      have X2 := Lib.hid (show goodB ⟨p, 1, mode, data⟩ = false by rw [X.out, modeE, decide_eq_false (by omega)]; rfl)
      clear m1 X
      go_enter Tryz.func34, Tryz.ntmps34
      go_wp2
      go_ret
      exact ⟨ret_bool (by rw [X2.out]), (Below.refl _ _).alloc (Nat.le_refl _) _⟩
    have HM := Lib.hid (show modeE mode = true by rw [modeE, decide_eq_true ⟨m0, m1⟩])
    · by_cases d0 : data = []
      · subst d0
        go_enter Tryz.func34, Tryz.ntmps34
        go_wp2
        go_ret
        exact ⟨ret_bool (by rw [X.out, HM.out]; simp), (Below.refl _ _).alloc (Nat.le_refl _) _⟩
      · have f1 : data.isEmpty = false := by cases data <;> simp_all
        clear d0
        go_enter Tryz.func34, Tryz.ntmps34
        go_wp2
        go_ret
        exact ⟨ret_bool (by rw [X.out, HM.out, f1]; rfl), (Below.refl _ _).alloc (Nat.le_refl _) _⟩
  have f1 : (kind == 1) = false := by simpa using k1
  by_cases k2 : kind = 2
  · subst k2
    have X := Lib.hid (show goodB ⟨p, 2, mode, data⟩ = (modeE mode && decide (data.length ≤ 4096)) by simp [goodB])
    by_cases m0 : 0 ≤ mode
    case neg =>
      have m1 : mode < 0 := by omega
      have X2 := Lib.hid (show goodB ⟨p, 2, mode, data⟩ = false by rw [X.out, modeE, decide_eq_false (by omega)]; rfl)
      clear m0 X
      go_enter Tryz.func34, Tryz.ntmps34
      go_wp2
      go_ret
      exact ⟨ret_bool (by rw [X2.out]), (Below.refl _ _).alloc (Nat.le_refl _) _⟩
    by_cases m1 : mode ≤ 511
    case neg =>
      have m2 : 511 < mode := by omega
      have X2 := Lib.hid (show goodB ⟨p, 2, mode, data⟩ = false by rw [X.out, modeE, decide_eq_false (by omega)]; rfl)
      clear m1 X
      go_enter Tryz.func34, Tryz.ntmps34
      go_wp2
      go_ret
      exact ⟨ret_bool (by rw [X2.out]), (Below.refl _ _).alloc (Nat.le_refl _) _⟩
    have HM := Lib.hid (show modeE mode = true by rw [modeE, decide_eq_true ⟨m0, m1⟩])
    · by_cases d0 : data.length ≤ 4096
      · go_enter Tryz.func34, Tryz.ntmps34
        go_wp2
        go_ret
        exact ⟨ret_bool (by rw [X.out, HM.out]; simp; omega), (Below.refl _ _).alloc (Nat.le_refl _) _⟩
      · have d1 : 4096 < data.length := by omega
        clear d0
        go_enter Tryz.func34, Tryz.ntmps34
        go_wp2
        go_ret
        exact ⟨ret_bool (by rw [X.out, HM.out]; simp; omega), (Below.refl _ _).alloc (Nat.le_refl _) _⟩
  have f2 : (kind == 2) = false := by simpa using k2
  by_cases k3 : kind = 3
  · subst k3
    have X := Lib.hid (show goodB ⟨p, 3, mode, data⟩ = (decide (mode = 0) && targetB data) by simp [goodB])
    by_cases m0 : mode = 0
    · subst m0
      go_enter Tryz.func34, Tryz.ntmps34
      go_wp2_with (go_at_call 51; refine (targetP_any data _ (by unfold maxLen; omega)).mono ?_; rintro e9 w9 ⟨rfl, rfl⟩)
      go_ret
      exact ⟨ret_bool (by rw [X.out]; simp), (Below.refl _ _).alloc (Nat.le_refl _) _⟩
    · have m1 : (mode == 0) = false := by simpa using m0
      have X2 := Lib.hid (show goodB ⟨p, 3, mode, data⟩ = false by rw [X.out, decide_eq_false m0]; rfl)
      clear m0 X
      go_enter Tryz.func34, Tryz.ntmps34
      go_wp2
      go_ret
      exact ⟨ret_bool (by rw [X2.out]), (Below.refl _ _).alloc (Nat.le_refl _) _⟩
  have f3 : (kind == 3) = false := by simpa using k3
  have X2 := Lib.hid (show goodB ⟨p, kind, mode, data⟩ = false by simp [goodB, k1, k2, k3])
  clear k1 k2 k3
  go_enter Tryz.func34, Tryz.ntmps34
  go_wp2
  go_ret
  exact ⟨ret_bool X2.out.symm, (Below.refl _ _).alloc (Nat.le_refl _) _⟩
end Go.Proofs.YtjampkdbieoboaaGreatDoor
namespace Go.Proofs.YtjampkdbieoboaaGreatDoor
open Go.RowKit

theorem isNaN_any (s : List UInt8) (w : World) :
    Calls Tryz.prog 68 #[.string (S s)] w fun e w' => e = .returned (.bool false) ∧ w' = w := by
  go_enter Tryz.func68, Tryz.ntmps68
  go_wp2
  go_ret
  exact ⟨by simp, rfl⟩
theorem cmpS_lt {a b : List UInt8} (h : a < b) : cmpS a b = -1 := by unfold cmpS; rw [if_pos h]
theorem cmpS_gt {a b : List UInt8} (h : b < a) : cmpS a b = 1 := by
  unfold cmpS
  rw [if_neg (fun h2 => List.lt_irrefl a (List.lt_trans h2 h)), if_pos h]
theorem cmpS_eq {a b : List UInt8} (h1 : ¬ a < b) (h2 : ¬ b < a) : cmpS a b = 0 := by unfold cmpS; rw [if_neg h1, if_neg h2]
set_option maxHeartbeats 1000000 in
theorem cmpP_any (a b : List UInt8) (w : World) :
    Calls Tryz.prog 64 #[.string (S a), .string (S b)] w fun e w' => e = .returned (.int .i64 (cmpS a b)) ∧ w' = w := by
  have l1 := less_eq a b
  have l2 := less_eq b a
  by_cases h1 : a < b
  · have Y := Lib.hid (cmpS_lt h1)
    rw [decide_eq_true h1] at l1
    clear h1
    go_enter Tryz.func64, Tryz.ntmps64
    go_wp2_with (go_at_call 68; refine (isNaN_any _ _).mono ?_; rintro e1 w1 ⟨rfl, rfl⟩)
    go_ret
    exact ⟨ret_int Y.out.symm, rfl⟩
  · by_cases h2 : b < a
    · have Y := Lib.hid (cmpS_gt h2)
      have e1 : (a == b) = false := by rw [beq_eq_false_iff_ne]; intro e; subst e; exact h1 h2
      rw [decide_eq_false h1] at l1
      rw [decide_eq_true h2] at l2
      clear h1 h2
      go_enter Tryz.func64, Tryz.ntmps64
      go_wp2_with (go_at_call 68; refine (isNaN_any _ _).mono ?_; rintro e1 w1 ⟨rfl, rfl⟩)
      go_ret
      exact ⟨ret_int Y.out.symm, rfl⟩
    · have Y := Lib.hid (cmpS_eq h1 h2)
      have e1 : (a == b) = true := by rw [beq_iff_eq]; exact List.le_antisymm (List.not_lt.1 h2) (List.not_lt.1 h1)
      rw [decide_eq_false h1] at l1
      rw [decide_eq_false h2] at l2
      clear h1 h2
      go_enter Tryz.func64, Tryz.ntmps64
      go_wp2_with (go_at_call 68; refine (isNaN_any _ _).mono ?_; rintro e1 w1 ⟨rfl, rfl⟩)
      go_ret
      exact ⟨ret_int Y.out.symm, rfl⟩

theorem compareL_end {X Y : List (List UInt8)} {k : Nat} (h : k < X.length) (h2 : k = Y.length) : compareL (X.drop k) (Y.drop k) = 1 := by
  rw [List.drop_eq_getElem_cons h, List.drop_eq_nil_of_le (by omega : Y.length ≤ k)]; rfl
theorem compareL_at {X Y : List (List UInt8)} {k : Nat} (h : k < X.length) (h2 : k < Y.length) : compareL (X.drop k) (Y.drop k) = (if X[k] < Y[k] then -1 else if Y[k] < X[k] then 1 else compareL (X.drop (k + 1)) (Y.drop (k + 1))) := by
  rw [List.drop_eq_getElem_cons h, List.drop_eq_getElem_cons h2]; rfl
theorem compareL_out {X Y : List (List UInt8)} {k : Nat} (h : k = X.length) : compareL (X.drop k) (Y.drop k) = if k < Y.length then -1 else 0 := by
  rw [List.drop_eq_nil_of_le (by omega : X.length ≤ k)]
  split
  · rename_i h2
    rw [List.drop_eq_getElem_cons h2]; rfl
  · rw [List.drop_eq_nil_of_le (by omega : Y.length ≤ k)]; rfl

set_option maxHeartbeats 2000000 in
theorem sliceCmp_any (X Y : List (List UInt8)) (A B : Option Addr) (n m ca cb : Nat) (w : World) (hn : X.length = n) (hm : Y.length = m) (hx : Rd w A (strs X)) (hy : Rd w B (strs Y)) (hl : X.length ≤ 4294967290) (hl2 : Y.length ≤ 4294967290) :
    Calls Tryz.prog 52 #[.slice A n ca, .slice B m cb] w fun e w' => e = .returned (.int .i64 (compareL X Y)) ∧ w' = w := by
  subst hn
  subst hm
  have HX := Lib.hid hx
  have HY := Lib.hid hy
  clear hx hy
  go_enter Tryz.func52, Tryz.ntmps52
  go_wp2
  go_loop [11] (fun i => ∃ k : Nat, k ≤ X.length ∧ k ≤ Y.length ∧ i = .int .i64 k ∧ Hid (compareL X Y = compareL (X.drop k) (Y.drop k))) (fun i => X.length - (intOf i).toNat)
  case atStart => exact ⟨0, by omega, by omega, rfl, rfl⟩
  case round =>
    obtain ⟨k, hk, hk2, rfl, HQ⟩ := hrel
    by_cases hlt : k < X.length
    · obtain ⟨b, o, rfl, hb, hc⟩ := HX.out.at k (by rw [strs_len]; exact hlt)
      have a0 := hc k _ (strs_get hlt)
      have hkl : (k : Int) < (X.length : Int) := by omega
      clear hc
      by_cases h2 : k < Y.length
      · obtain ⟨b2, o2, rfl, hb2, hc2⟩ := HY.out.at k (by rw [strs_len]; exact h2)
        have a1 := hc2 k _ (strs_get h2)
        have hkm : (k : Int) < (Y.length : Int) := by omega
        have HE := Lib.hid (compareL_at hlt h2)
        clear hc2
        obtain ⟨x, hx⟩ : ∃ x, x = X[k] := ⟨_, rfl⟩
        obtain ⟨y, hy⟩ : ∃ y, y = Y[k] := ⟨_, rfl⟩
        rw [← hx, ← hy] at HE
        rw [← hx] at a0
        rw [← hy] at a1
        clear hx hy
        have HCm := Lib.hid (cmpP_any x y)
        by_cases l1 : x < y
        · have HR := Lib.hid (show compareL X Y = -1 by rw [HQ.out, HE.out, if_pos l1])
          have HC := Lib.hid (cmpS_lt l1)
          clear l1
          go_wp2_with (go_at_call 64; refine (HCm.out _).mono ?_; rintro e1 w1 ⟨rfl, rfl⟩; rw [HC.out])
          go_ret
          exact ⟨ret_int HR.out.symm, rfl⟩
        · by_cases l2 : y < x
          · have HR := Lib.hid (show compareL X Y = 1 by rw [HQ.out, HE.out, if_neg l1, if_pos l2])
            have HC := Lib.hid (cmpS_gt l2)
            clear l1 l2
            go_wp2_with (go_at_call 64; refine (HCm.out _).mono ?_; rintro e1 w1 ⟨rfl, rfl⟩; rw [HC.out])
            go_ret
            exact ⟨ret_int HR.out.symm, rfl⟩
          · have HR := Lib.hid (show compareL X Y = compareL (X.drop (k + 1)) (Y.drop (k + 1)) by rw [HQ.out, HE.out, if_neg l1, if_neg l2])
            have HC := Lib.hid (cmpS_eq l1 l2)
            clear l1 l2
            go_wp2_with (go_at_call 64; refine (HCm.out _).mono ?_; rintro e1 w1 ⟨rfl, rfl⟩; rw [HC.out])
            go_round
            case rel => exact ⟨k + 1, by omega, by omega, by go_num, HR⟩
            case measure => simp [intOf]; omega
      · have HR := Lib.hid (show compareL X Y = 1 by rw [HQ.out]; exact compareL_end hlt (by omega))
        go_wp2
        go_ret
        exact ⟨ret_int HR.out.symm, rfl⟩
    · have HR := Lib.hid (show compareL X Y = if k < Y.length then -1 else 0 by rw [HQ.out]; exact compareL_out (by omega))
      obtain rfl : k = X.length := by omega
      by_cases h2 : X.length < Y.length
      · rw [if_pos h2] at HR
        go_wp2
        go_ret
        exact ⟨ret_int HR.out.symm, rfl⟩
      · rw [if_neg h2] at HR
        go_wp2
        go_ret
        exact ⟨ret_int HR.out.symm, rfl⟩

theorem compareP_any (a b : List UInt8) (w : World) (hw : Std w) (ha : a.length ≤ 4294967280) (hb : b.length ≤ 4294967280) :
    Calls Tryz.prog 35 #[.string (S a), .string (S b)] w fun e w' => e = .returned (.int .i64 (compareL (partsB a) (partsB b))) ∧ Below w.heap.size w w' := by
  have HS := Lib.hid hw
  have hla := partsB_len a
  have hlb := partsB_len b
  clear hw
  go_enter Tryz.func35, Tryz.ntmps35
  go_wp2_with fail
  refine (partsP_any a _ HS.out ha).mono ?_
  rintro e w1 ⟨v1, rfl, hown1, hb1⟩
  obtain ⟨A1, cap1, rfl, _, _, hrd1⟩ := Rd.of_own hown1
  have HB1 := Lib.hid hb1
  have HR1 := Lib.hid hrd1
  clear hown1 hrd1 hb1
  go_wp2_with fail
  refine (partsP_any b _ (HS.out.below HB1.out) hb).mono ?_
  rintro e w2 ⟨v2, rfl, hown2, hb2⟩
  obtain ⟨A2, cap2, rfl, _, _, hrd2⟩ := Rd.of_own hown2
  have HB2 := Lib.hid (HB1.out.trans (hb2.mono HB1.out.size))
  have HR2 := Lib.hid (HR1.out.below hb2)
  have HR3 := Lib.hid hrd2
  clear hown2 hrd2 hb2
  go_wp2_with fail
  refine (sliceCmp_any (partsB a) (partsB b) A1 A2 _ _ cap1 cap2 _ rfl rfl HR2.out HR3.out (by omega) (by omega)).mono ?_
  rintro e w3 ⟨rfl, rfl⟩
  go_wp2
  go_ret
  exact ⟨rfl, HB2.out⟩
end Go.Proofs.YtjampkdbieoboaaGreatDoor
