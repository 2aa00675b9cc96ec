/-
  The document's answer: what is in what, tree order, what may be an entry.
  The document's answer: a path's directory and last element.
-/
import Derived.Deep.QuietTactic
import Derived.BigQuiet
import Derived.WalkSmall
import Derived.BigRegion
import Derived.Test.YtafokdidpbainaaGreatDoorY00
import Derived.Test.YtafokdidpbainaaGreatDoorY01
set_option linter.unusedVariables false
set_option linter.unusedSimpArgs false
namespace Go.Proofs.YtafokdidpbainaaGreatDoor
open Go.RowKit

set_option maxHeartbeats 1000000 in
theorem targetR_any (s : List UInt8) (w : World) (hs : s.length ≤ maxLen) :
    Calls Tryz.prog 44 #[.string (S s)] w fun e w' => e = .returned (.bool (targetB s)) ∧ w = w' := by
  unfold maxLen at hs
  go_enter Tryz.func44, Tryz.ntmps44
  go_wp2
  go_loop [3] (fun i => ∃ k : Nat, k ≤ s.length ∧ i = .int .i64 k ∧ Hid ((s.take k).all visC = true)) (fun i => s.length - (intOf i).toNat)
  case atStart => exact ⟨0, by omega, rfl, by simp [Hid]⟩
  case round =>
    obtain ⟨k, hk, rfl, hall⟩ := hrel
    by_cases hlt : k < s.length
    · have hi := visC_iff s[k]
      cases hc : visC s[k]
      · have HA := Lib.hid (show targetB s = false by
          have : s.all visC = false := by rw [List.all_eq_false]; exact ⟨s[k], List.getElem_mem hlt, by simp [hc]⟩
          rw [targetB, this]; rfl)
        have hn : ¬ (33 ≤ (s[k].toNat : Int) ∧ (s[k].toNat : Int) ≤ 126) := fun h => absurd (hi.2 h) (by simp [hc])
        clear hc hi hall
        by_cases h33 : (s[k].toNat : Int) < 33
        · clear hn
          go_wp2
          go_ret
          exact ⟨ret_bool HA.out.symm, rfl⟩
        · have h126 : 126 < (s[k].toNat : Int) := by omega
          clear hn
          go_wp2
          go_ret
          exact ⟨ret_bool HA.out.symm, rfl⟩
      · have HA := Lib.hid (show (s.take (k + 1)).all visC = true by rw [all_snoc _ _ _ hlt, hall.out, hc]; rfl)
        obtain ⟨h33, h126⟩ := hi.1 hc
        clear hc hi hall
        go_wp2
        go_round
        case rel => exact ⟨k + 1, by omega, by go_num, HA⟩
        case measure => simp [intOf]; omega
    · have HA := Lib.hid (show targetB s = (!s.isEmpty && decide (s.length ≤ 100)) by
        have := hall.out; rw [List.take_of_length_le (Nat.le_of_not_lt hlt)] at this; rw [targetB, this]; rfl)
      replace hlt : s.length ≤ k := by omega
      clear hall
      by_cases he : s = []
      · subst he
        go_wp2
        go_ret
        exact ⟨ret_bool (by rw [HA.out]; rfl), rfl⟩
      · have f1 : s.isEmpty = false := by cases s <;> simp_all
        clear he
        go_wp2
        go_ret
        exact ⟨ret_bool (by rw [HA.out, f1]; simp; omega), rfl⟩

set_option maxHeartbeats 1000000 in
theorem orderR_any (a b : List UInt8) (w : World) (ha : a.length ≤ 4294967280) (hb : b.length ≤ 4294967280) :
    Calls Tryz.prog 22 #[.string (S a), .string (S b)] w fun e w' => e = .returned (.int .i64 (orderL (partsB a) (partsB b))) ∧ Below w.heap.size w w' := by
  have hla := partsB_len a
  have hlb := partsB_len b
  go_enter Tryz.func22, Tryz.ntmps22
  go_wp2_with fail
  refine (parts_any a _ ha).mono ?_
  rintro e w1 ⟨v1, rfl, hown1, hb1⟩
  obtain ⟨A1, cap1, rfl, _, _, hrd1⟩ := Rd.of_own hown1
  clear hown1
  go_wp2_with fail
  refine (parts_any b _ hb).mono ?_
  rintro e w2 ⟨v2, rfl, hown2, hb2⟩
  obtain ⟨A2, cap2, rfl, _, _, hrd2⟩ := Rd.of_own hown2
  clear hown2
  have hb12 : Below w.heap.size w w2 := hb1.trans (hb2.mono hb1.size)
  have hrd1' := hrd1.below hb2
  clear hrd1 hb1 hb2
  generalize hX : partsB a = X at *
  generalize hY : partsB b = Y at *
  have HXY := Lib.hid (show orderL (partsB a) (partsB b) = orderL X Y by rw [hX, hY])
  clear hX hY
  go_wp2
  go_loopw [7] (fun i wr => ∃ k n : Nat, k ≤ X.length ∧ k ≤ Y.length ∧ i = .int .i64 k ∧ Hid (orderL X Y = orderL (X.drop k) (Y.drop k)) ∧ Hid (wr = w2.drewN n)) (fun i _ => X.length - (intOf i).toNat)
  case atStart => exact ⟨0, 0, Nat.zero_le _, Nat.zero_le _, rfl, rfl, rfl⟩
  case round =>
    obtain ⟨k, n, hk, hk2, rfl, HO, HW⟩ := hrel
    obtain rfl := HW.out
    clear HW
    by_cases hlt : k < X.length
    · by_cases hlt2 : k < Y.length
      · obtain ⟨b1, o1, rfl, hbb1, hc1⟩ := hrd1'.at k (by simpa [strs] using hlt)
        obtain ⟨b2, o2, rfl, hbb2, hc2⟩ := hrd2.at k (by simpa [strs] using hlt2)
        have hck1 := hc1 k _ (strs_get hlt)
        have hck2 := hc2 k _ (strs_get hlt2)
        clear hc1 hc2 hrd1' hrd2
        have hd1 := drop_cons X k hlt
        have hd2 := drop_cons Y k hlt2
        have HS := Lib.hid (show orderL X Y = if X[k] < Y[k] then -1 else if Y[k] < X[k] then 1 else orderL (X.drop (k + 1)) (Y.drop (k + 1)) by rw [HO.out, hd1, hd2, orderL])
        clear HO hd1 hd2
        by_cases hl1 : X[k] < Y[k]
        · have hq : Op.bytesLess X[k] Y[k] = true := by rw [less_eq]; exact decide_eq_true hl1
          have HR := Lib.hid (show orderL X Y = -1 by rw [HS.out, if_pos hl1])
          clear HS hl1
          go_wp2
          go_quiet (fail)
          go_wp2
          go_ret
          exact ⟨ret_int (HXY.out.trans HR.out).symm, by repeat (first | exact hb12 | refine below_drewN ?_ _)⟩
        · have hq : Op.bytesLess X[k] Y[k] = false := by rw [less_eq]; exact decide_eq_false hl1
          by_cases hl2 : Y[k] < X[k]
          · have hq2 : (X[k] == Y[k]) = false := by
              rw [beq_eq_false_iff_ne]; intro h; rw [h] at hl2; exact List.lt_irrefl _ hl2
            have HR := Lib.hid (show orderL X Y = 1 by rw [HS.out, if_neg hl1, if_pos hl2])
            clear HS hl1 hl2
            go_wp2
            go_quiet (fail)
            go_wp2
            go_quiet (fail)
            go_wp2
            go_ret
            exact ⟨ret_int (HXY.out.trans HR.out).symm, by repeat (first | exact hb12 | refine below_drewN ?_ _)⟩
          · have hq2 : (X[k] == Y[k]) = true := by
              rw [beq_iff_eq]; exact List.le_antisymm (List.not_lt.1 hl2) (List.not_lt.1 hl1)
            have HR := Lib.hid (show orderL X Y = orderL (X.drop (k + 1)) (Y.drop (k + 1)) by rw [HS.out, if_neg hl1, if_neg hl2])
            clear HS hl1 hl2
            go_wp2
            go_quiet (fail)
            go_wp2
            go_quiet (fail)
            go_wp2
            go_roundw
            case rel => exact ⟨k + 1, _, by omega, by omega, by go_num, HR, rfl⟩
            case measure => simp [intOf]; omega
      · obtain rfl : k = Y.length := by omega
        have HR := Lib.hid (show orderL X Y = (X.length : Int) - Y.length by
          rw [HO.out, List.drop_length, drop_cons X _ hlt, orderL]
          · simp; omega
          · intros; simp_all)
        clear HO
        go_wp2
        go_ret
        exact ⟨ret_int (HXY.out.trans HR.out).symm, by repeat (first | exact hb12 | refine below_drewN ?_ _)⟩
    · obtain rfl : k = X.length := by omega
      have HR := Lib.hid (show orderL X Y = (X.length : Int) - Y.length by
        rw [HO.out, List.drop_length, orderL]
        · simp; omega
        · intros; simp_all)
      clear HO
      go_wp2
      go_ret
      exact ⟨ret_int (HXY.out.trans HR.out).symm, by repeat (first | exact hb12 | refine below_drewN ?_ _)⟩

set_option maxHeartbeats 2000000 in
theorem goodR_any (x : Ent) (w : World) (hs : x.data.length ≤ 4294967280) :
    Calls Tryz.prog 21 #[x.agg] w fun e w' => e = .returned (.bool (goodB x)) ∧ Below w.heap.size w w' := by
  obtain ⟨p, kind, mode, data⟩ := x
  simp only [Ent.agg] at *
  by_cases k1 : kind = 1
  · subst k1
    have X := Lib.hid (show goodB ⟨p, 1, mode, data⟩ = (modeE mode && data.isEmpty) by simp [goodB])
    by_cases m0 : 0 ≤ mode
    case neg =>
      have m1 : mode < 0 := by omega
      have X2 := Lib.hid (show goodB ⟨p, 1, mode, data⟩ = false by rw [X.out, modeE, decide_eq_false (by omega)]; rfl)
      clear m0 X
      go_enter Tryz.func21, Tryz.ntmps21
      go_wp2
      go_ret
      exact ⟨ret_bool (by rw [X2.out]), (Below.refl _ _).alloc (Nat.le_refl _) _⟩
    by_cases m1 : mode ≤ 511
    case neg =>
      have m2 : 511 < mode := by omega
      have X2 := Lib.hid (show goodB ⟨p, 1, mode, data⟩ = false by rw [X.out, modeE, decide_eq_false (by omega)]; rfl)
      clear m1 X
      go_enter Tryz.func21, Tryz.ntmps21
      go_wp2
      go_ret
      exact ⟨ret_bool (by rw [X2.out]), (Below.refl _ _).alloc (Nat.le_refl _) _⟩
    have HM := Lib.hid (show modeE mode = true by rw [modeE, decide_eq_true ⟨m0, m1⟩])
    · by_cases d0 : data = []
      · subst d0
        go_enter Tryz.func21, Tryz.ntmps21
        go_wp2
        go_ret
        exact ⟨ret_bool (by rw [X.out, HM.out]; simp), (Below.refl _ _).alloc (Nat.le_refl _) _⟩
      · have f1 : data.isEmpty = false := by cases data <;> simp_all
        clear d0
        go_enter Tryz.func21, Tryz.ntmps21
        go_wp2
        go_ret
        exact ⟨ret_bool (by rw [X.out, HM.out, f1]; rfl), (Below.refl _ _).alloc (Nat.le_refl _) _⟩
  have f1 : (kind == 1) = false := by simpa using k1
  by_cases k2 : kind = 2
  · subst k2
    have X := Lib.hid (show goodB ⟨p, 2, mode, data⟩ = (modeE mode && decide (data.length ≤ 4096)) by simp [goodB])
    by_cases m0 : 0 ≤ mode
    case neg =>
      have m1 : mode < 0 := by omega
      have X2 := Lib.hid (show goodB ⟨p, 2, mode, data⟩ = false by rw [X.out, modeE, decide_eq_false (by omega)]; rfl)
      clear m0 X
      go_enter Tryz.func21, Tryz.ntmps21
      go_wp2
      go_ret
      exact ⟨ret_bool (by rw [X2.out]), (Below.refl _ _).alloc (Nat.le_refl _) _⟩
    by_cases m1 : mode ≤ 511
    case neg =>
      have m2 : 511 < mode := by omega
      have X2 := Lib.hid (show goodB ⟨p, 2, mode, data⟩ = false by rw [X.out, modeE, decide_eq_false (by omega)]; rfl)
      clear m1 X
      go_enter Tryz.func21, Tryz.ntmps21
      go_wp2
      go_ret
      exact ⟨ret_bool (by rw [X2.out]), (Below.refl _ _).alloc (Nat.le_refl _) _⟩
    have HM := Lib.hid (show modeE mode = true by rw [modeE, decide_eq_true ⟨m0, m1⟩])
    · by_cases d0 : data.length ≤ 4096
      · go_enter Tryz.func21, Tryz.ntmps21
        go_wp2
        go_ret
        exact ⟨ret_bool (by rw [X.out, HM.out]; simp; omega), (Below.refl _ _).alloc (Nat.le_refl _) _⟩
      · have d1 : 4096 < data.length := by omega
        clear d0
        go_enter Tryz.func21, Tryz.ntmps21
        go_wp2
        go_ret
        exact ⟨ret_bool (by rw [X.out, HM.out]; simp; omega), (Below.refl _ _).alloc (Nat.le_refl _) _⟩
  have f2 : (kind == 2) = false := by simpa using k2
  by_cases k3 : kind = 3
  · subst k3
    have X := Lib.hid (show goodB ⟨p, 3, mode, data⟩ = (decide (mode = 0) && targetB data) by simp [goodB])
    by_cases m0 : mode = 0
    · subst m0
      go_enter Tryz.func21, Tryz.ntmps21
      go_wp2_with (go_at_call 44; refine (targetR_any data _ (by unfold maxLen; omega)).mono ?_; rintro e9 w9 ⟨rfl, rfl⟩)
      go_ret
      exact ⟨ret_bool (by rw [X.out]; simp), (Below.refl _ _).alloc (Nat.le_refl _) _⟩
    · have m1 : (mode == 0) = false := by simpa using m0
      have X2 := Lib.hid (show goodB ⟨p, 3, mode, data⟩ = false by rw [X.out, decide_eq_false m0]; rfl)
      clear m0 X
      go_enter Tryz.func21, Tryz.ntmps21
      go_wp2_with (go_at_call 44; refine (targetR_any data _ (by unfold maxLen; omega)).mono ?_; rintro e9 w9 ⟨rfl, rfl⟩)
      all_goals (go_ret; exact ⟨ret_bool X2.out.symm, (Below.refl _ _).alloc (Nat.le_refl _) _⟩)
  have f3 : (kind == 3) = false := by simpa using k3
  have X2 := Lib.hid (show goodB ⟨p, kind, mode, data⟩ = false by simp [goodB, k1, k2, k3])
  clear k1 k2 k3
  go_enter Tryz.func21, Tryz.ntmps21
  go_wp2
  all_goals (go_ret; exact ⟨ret_bool X2.out.symm, (Below.refl _ _).alloc (Nat.le_refl _) _⟩)
end Go.Proofs.YtafokdidpbainaaGreatDoor
namespace Go.Proofs.YtafokdidpbainaaGreatDoor
open Go.RowKit

theorem Rd.pre {w : World} {A : Option Addr} {xs ys : List Value} (h : Rd w A (xs ++ ys)) : Rd w A xs := by
  rcases h with h | ⟨b, o, rfl, hc⟩
  · exact .inl (List.append_eq_nil_iff.1 h).1
  · refine .inr ⟨b, o, rfl, fun i u hu => hc i u ?_⟩
    rw [List.getElem?_append_left (List.getElem?_eq_some_iff.1 hu).1]; exact hu
theorem Rd.strs_take {w : World} {A : Option Addr} {P : List (List UInt8)} (h : Rd w A (strs P)) (m : Nat) : Rd w A (strs (P.take m)) := by
  have e : strs P = strs (P.take m) ++ strs (P.drop m) := by simp only [strs]; rw [← List.map_append, List.take_append_drop]
  rw [e] at h; exact h.pre
set_option maxHeartbeats 1000000 in
theorem upR_any (s : List UInt8) (w : World) (hs : s.length ≤ 5000) (h0 : 0 < (partsB s).length) :
    Calls Tryz.prog 23 #[.string (S s)] w fun e w' => e = .returned (.tuple #[.string (S (upB s).1), .string (S (upB s).2)]) ∧ Below w.heap.size w w' := by
  go_enter Tryz.func23, Tryz.ntmps23
  go_wp2_with fail
  refine (parts_any s _ (by omega)).mono ?_
  rintro e w1 ⟨v, rfl, hown, hb⟩
  obtain ⟨A, cap, rfl, hc1, hc2, hrd⟩ := Rd.of_own hown
  clear hown
  have hlen : lensB (partsB s) ≤ s.length + 1 := by
    unfold partsB; split
    · simp [lensB]
    · exact lensB_cut _ _
  have hpl := partsB_len s
  have X := Lib.hid (show upB s = (joinB (partsB s).dropLast, (partsB s).getLastD []) from rfl)
  generalize hP : partsB s = P at *
  clear hP
  have hD := Lib.hid (show P.dropLast = P.take (P.length - 1) from List.dropLast_eq_take)
  obtain ⟨m, hm⟩ : ∃ m, P.length = m + 1 := ⟨P.length - 1, by omega⟩
  have hwr : IntKind.i64.wrap ((P.length : Int) - 1) = (m : Int) := by rw [IntKind.wrap_i64]; omega
  have hT : (P.take m).length = m := by rw [List.length_take]; omega
  have hJ := Lib.hid (joined_any (P.take m) A cap w1 (hrd.strs_take m) (by omega) (by have := lensB_take P m; omega))
  rw [hT] at hJ
  have X2 := Lib.hid (show upB s = (joinB (P.take m), P[m]'(by omega)) by
    have e1 : P.length - 1 = m := by omega
    have e2 : P.getLastD [] = P[m]'(by omega) := by
      rw [List.getLastD_eq_getLast?, List.getLast?_eq_getElem?, e1, List.getElem?_eq_getElem (by omega)]; rfl
    rw [X.out, hD.out, e2, e1])
  obtain ⟨b, o, rfl, hbb, hc⟩ := hrd.at m (by simp [strs]; omega)
  have hcm := hc m _ (strs_get (by omega))
  have hmm : (m : Int) < (m : Int) + 1 := by omega
  clear hT hD X hc
  go_wp2_with fail
  refine (hJ.out).mono ?_
  rintro e w2 ⟨rfl, rfl⟩
  go_wp2
  go_region
  all_goals go_wp2
  all_goals go_ret2
  all_goals exact ⟨by rw [X2.out]; rfl, hb.drew⟩
end Go.Proofs.YtafokdidpbainaaGreatDoor
