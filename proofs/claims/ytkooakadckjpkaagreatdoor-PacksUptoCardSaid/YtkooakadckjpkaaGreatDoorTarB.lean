/-
  The document's answer: a path's directory and last element; the name that a change has in an archive.
-/
import Derived.Test.YtkooakadckjpkaaGreatDoorTarA
import Derived.Test.YtkooakadckjpkaaGreatDoorRefE
namespace Go.Proofs.YtkooakadckjpkaaGreatDoor
open Go.RowKit

theorem Rd.pre {w : World} {A : Option Addr} {xs ys : List Value} (h : Rd w A (xs ++ ys)) : Rd w A xs := by
  rcases h with h | ⟨b, o, rfl, hc⟩
  · exact .inl (List.append_eq_nil_iff.1 h).1
  · refine .inr ⟨b, o, rfl, fun i u hu => hc i u ?_⟩
    rw [List.getElem?_append_left (List.getElem?_eq_some_iff.1 hu).1]; exact hu
theorem Rd.strs_take {w : World} {A : Option Addr} {P : List (List UInt8)} (h : Rd w A (strs P)) (m : Nat) : Rd w A (strs (P.take m)) := by
  have e : strs P = strs (P.take m) ++ strs (P.drop m) := by simp only [strs]; rw [← List.map_append, List.take_append_drop]
  rw [e] at h; exact h.pre
set_option maxHeartbeats 1000000 in
theorem upR_any (s : List UInt8) (w : World) (hs : s.length ≤ 5000) (h0 : 0 < (partsB s).length) :
    Calls Tryz.prog 40 #[.string (S s)] w fun e w' => e = .returned (.tuple #[.string (S (upB s).1), .string (S (upB s).2)]) ∧ Below w.heap.size w w' := by
  go_enter Tryz.func40, Tryz.ntmps40
  go_wp2_with fail
  refine (parts_any s _ (by omega)).mono ?_
  rintro e w1 ⟨v, rfl, hown, hb⟩
  obtain ⟨A, cap, rfl, hc1, hc2, hrd⟩ := Rd.of_own hown
  clear hown
  have hlen : lensB (partsB s) ≤ s.length + 1 := by
    unfold partsB; split
    · simp [lensB]
    · exact lensB_cut _ _
  have hpl := partsB_len s
  have X := Lib.hid (show upB s = (joinB (partsB s).dropLast, (partsB s).getLastD []) from rfl)
  generalize hP : partsB s = P at *
  clear hP
  have hD := Lib.hid (show P.dropLast = P.take (P.length - 1) from List.dropLast_eq_take)
  obtain ⟨m, hm⟩ : ∃ m, P.length = m + 1 := ⟨P.length - 1, by omega⟩
  have hwr : IntKind.i64.wrap ((P.length : Int) - 1) = (m : Int) := by rw [IntKind.wrap_i64]; omega
  have hT : (P.take m).length = m := by rw [List.length_take]; omega
  have hJ := Lib.hid (joined_any (P.take m) A cap w1 (hrd.strs_take m) (by omega) (by have := lensB_take P m; omega))
  rw [hT] at hJ
  have X2 := Lib.hid (show upB s = (joinB (P.take m), P[m]'(by omega)) by
    have e1 : P.length - 1 = m := by omega
    have e2 : P.getLastD [] = P[m]'(by omega) := by
      rw [List.getLastD_eq_getLast?, List.getLast?_eq_getElem?, e1, List.getElem?_eq_getElem (by omega)]; rfl
    rw [X.out, hD.out, e2, e1])
  obtain ⟨b, o, rfl, hbb, hc⟩ := hrd.at m (by simp [strs]; omega)
  have hcm := hc m _ (strs_get (by omega))
  have hmm : (m : Int) < (m : Int) + 1 := by omega
  clear hT hD X hc
  go_wp2_with fail
  refine (hJ.out).mono ?_
  rintro e w2 ⟨rfl, rfl⟩
  go_wp2
  go_region
  all_goals go_wp2
  all_goals go_ret2
  all_goals exact ⟨by rw [X2.out]; rfl, hb.drew⟩

theorem upB_len (p : List UInt8) : (upB p).1.length ≤ p.length + 1 ∧ (upB p).2.length ≤ p.length + 1 := by
  have hl : lensB (partsB p) ≤ p.length + 1 := by
    unfold partsB; split
    · simp [lensB]
    · exact lensB_cut _ _
  refine ⟨?_, ?_⟩
  · have h1 := joinB_len (partsB p).dropLast
    have h2 := lensB_drop (partsB p)
    show (joinB (partsB p).dropLast).length ≤ _
    omega
  · show ((partsB p).getLastD []).length ≤ _
    generalize partsB p = P at hl
    cases hP : P.getLast? with
    | none => rw [List.getLastD_eq_getLast?, hP]; simp
    | some x =>
      have hm := List.mem_of_getLast? hP
      rw [List.getLastD_eq_getLast?, hP]
      obtain ⟨i, hi, rfl⟩ := List.getElem_of_mem hm
      have := lensB_get P i hi
      show (P[i]).length ≤ _
      omega
set_option maxHeartbeats 1000000 in
theorem named_any (c : Ent) (w : World) (hs : c.path.length ≤ 5000) (h0 : c.kind = 4 → 0 < (partsB c.path).length) :
    Calls Tryz.prog 23 #[c.agg] w fun e w' => e = .returned (.string (S (namB c))) ∧ Below w.heap.size w w' := by
  obtain ⟨p, k, m, d⟩ := c
  replace hs : p.length ≤ 5000 := hs
  replace h0 : k = 4 → 0 < (partsB p).length := h0
  have hb0 := (Below.refl w.heap.size w).alloc (Nat.le_refl _) (.cells #[.string (S p), .int .i64 k, .int .i64 m, .string (S d)] 36)
  rw [show Ent.agg ⟨p, k, m, d⟩ = .agg #[.string (S p), .int .i64 k, .int .i64 m, .string (S d)] from rfl]
  by_cases k1 : k = 1
  · subst k1
    have X := Lib.hid (show namB ⟨p, 1, m, d⟩ = p ++ [47] from rfl)
    clear h0
    go_enter Tryz.func23, Tryz.ntmps23
    go_wp2_with fail
    go_ret
    exact ⟨ret_str X.out.symm, hb0⟩
  by_cases k4 : k = 4
  · subst k4
    have X := Lib.hid (show namB ⟨p, 4, m, d⟩ = inB (upB p).1 ([46, 119, 104, 46] ++ (upB p).2) from rfl)
    have h0' := h0 rfl
    clear h0
    have hU := Lib.hid (fun w => upR_any p w hs h0')
    go_enter Tryz.func23, Tryz.ntmps23
    have hL := upB_len p
    generalize hq1 : (upB p).1 = q1 at *
    generalize hq2 : (upB p).2 = q2 at *
    clear hq1 hq2
    go_wp2_with fail
    refine (hU.out _).mono ?_
    rintro e w1 ⟨rfl, hb1⟩
    go_wp2_with fail
    refine (in_any _ _ _ (by simp; omega)).mono ?_
    rintro e w2 ⟨rfl, rfl⟩
    go_wp2_with fail
    go_ret
    exact ⟨ret_str X.out.symm, hb0.trans (hb1.mono hb0.size)⟩
  by_cases k5 : k = 5
  · subst k5
    have X := Lib.hid (show namB ⟨p, 5, m, d⟩ = inB p [46, 119, 104, 46, 46, 119, 104, 46, 46, 111, 112, 113] from rfl)
    clear h0
    go_enter Tryz.func23, Tryz.ntmps23
    go_wp2_with fail
    refine (in_any _ _ _ (by simp; omega)).mono ?_
    rintro e w' ⟨rfl, rfl⟩
    go_wp2_with fail
    go_ret
    exact ⟨ret_str X.out.symm, hb0⟩
  have X := Lib.hid (show namB ⟨p, k, m, d⟩ = p by simp [namB, k1, k4, k5])
  clear h0
  go_enter Tryz.func23, Tryz.ntmps23
  go_wp2_with fail
  go_ret
  exact ⟨ret_str X.out.symm, hb0⟩
end Go.Proofs.YtkooakadckjpkaaGreatDoor
