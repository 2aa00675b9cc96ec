/-
  The document's answer: a text cut at a byte.
-/
import Derived.Test.YtkooakadckjpkaaGreatDoorBase
namespace Go.Proofs.YtkooakadckjpkaaGreatDoor
open Go.RowKit

/-- layersref.cut -/
theorem cutB_step (c : UInt8) (s : List UInt8) (from_ k : Nat) (hf : from_ ≤ k) (hk : k < s.length) (hno : c ∉ (s.drop from_).take (k - from_)) :
    (s[k] = c → cutB c (s.drop from_) = (s.drop from_).take (k - from_) :: cutB c (s.drop (k + 1))) ∧ (s[k] ≠ c → c ∉ (s.drop from_).take (k + 1 - from_)) := by
  have e : s.drop from_ = (s.drop from_).take (k - from_) ++ s[k] :: s.drop (k + 1) := by
    conv => lhs; rw [← List.take_append_drop (k - from_) (s.drop from_)]
    rw [List.drop_drop, show from_ + (k - from_) = k by omega, List.drop_eq_getElem_cons hk]
  constructor
  · intro h
    rw [h] at e
    conv => lhs; rw [e]
    exact cutB_piece _ _ _ hno
  · intro h hin
    rw [show k + 1 - from_ = (k - from_) + 1 by omega, List.take_succ_eq_append_getElem (by rw [List.length_drop]; omega)] at hin
    rcases List.mem_append.1 hin with h1 | h1
    · exact hno h1
    · simp at h1
      exact h (by rw [h1]; congr 1; omega)

set_option maxHeartbeats 2000000 in
theorem cut_any (s : List UInt8) (b : UInt8) (c : Int) (hc : c = b.toNat) (w : World) (hs : s.length ≤ 4294967280) :
    Calls Tryz.prog 39 #[.string (S s), .int .u8 c] w fun e w' => ∃ v, e = .returned v ∧ w'.ownsRow w.heap.size 9 1 v (cutB b s).length (strs (cutB b s)) ∧ Below w.heap.size w w' := by
  obtain ⟨i0, hi, hz0, hz1, hz2⟩ := info_parts (show (Tryz.prog.info? 9).map (fun i => (i.zero, i.size, i.bytes)) = some (some (.string ByteArray.empty), 1, 16) by kernel_rfl)
  subst hc
  go_enter Tryz.func39, Tryz.ntmps39
  go_wp2
  go_loopw [5, 6, 7] (fun v f i wr => ∃ (pre : List (List UInt8)) (fr k : Nat), f = .int .i64 fr ∧ i = .int .i64 k ∧ fr ≤ k ∧ k ≤ s.length ∧ pre.length ≤ fr ∧ Hid (cutB b s = pre ++ cutB b (s.drop fr) ∧ b ∉ (s.drop fr).take (k - fr)) ∧
      wr.ownsRow w.heap.size 9 1 v pre.length (strs pre) ∧ Below w.heap.size w wr) (fun _ _ i _ => s.length - (intOf i).toNat)
  case atStart => exact ⟨[], 0, 0, rfl, rfl, Nat.le_refl _, Nat.zero_le _, Nat.le_refl _, ⟨rfl, by simp⟩, World.ownsRow_nil _ _ _ _, Below.refl _ _⟩
  case round =>
    obtain ⟨pre, fr, k, rfl, rfl, hfk, hk, hpre, HC, hown, hbel⟩ := hrel
    by_cases hlt : k < s.length
    · obtain ⟨st1, st2⟩ := cutB_step b s fr k hfk hlt HC.out.2
      by_cases hx : s[k] = b
      · have X := Lib.hid (show cutB b s = (pre ++ [(s.drop fr).take (k - fr)]) ++ cutB b (s.drop (k + 1)) by rw [HC.out.1, st1 hx]; simp)
        have hxt : ((s[k].toNat : Int) == (b.toNat : Int)) = true := by rw [hx]; simp
        clear HC st1 st2 hx
        go_wp2_with (at_builtin; refine wpList_append_own _ rfl _ _ 51 rfl w.heap.size 9 i0 (.string ByteArray.empty) 1 16 Tryz.underlying51 hi hz0 hz1 hz2 rfl (by decide) _ _ _ rfl (hown.alloc _) ⟨wr.heap.size, 0, none⟩ 1 1 [.string (S ((s.drop fr).take (k - fr)))] rfl rfl (cell_new1 _ _ _) (by simp [Value.oneCell']) (by unfold maxLen; omega) (by omega) (by have := hbel.size; simp; omega) ?_; intro v' w1 hown1 hgr1 _)
        have hown1' : w1.ownsRow w.heap.size 9 1 v' (pre ++ [((s.drop fr).take (k - fr))]).length (strs (pre ++ [((s.drop fr).take (k - fr))])) := by
          have e1 : (pre ++ [((s.drop fr).take (k - fr))]).length = pre.length + 1 := by simp
          have e2 : strs (pre ++ [((s.drop fr).take (k - fr))]) = strs pre ++ [Value.string (S ((s.drop fr).take (k - fr)))] := by simp [strs]
          rw [e1, e2]; exact hown1
        have hbel1 : Below w.heap.size w w1 := (hbel.alloc hbel.size _).grown hgr1 (by have := hbel.size; simp; omega) (fun q hq => ((hown.alloc (.cells #[.string (S ((s.drop fr).take (k - fr)))] 9)).lt q hq).1)
        clear hown1 hgr1 hown
        go_wp2
        go_roundw
        case rel => exact ⟨_, k + 1, k + 1, by go_num, by go_num, Nat.le_refl _, by omega, by simp; omega, ⟨X.out, by simp⟩, hown1', hbel1⟩
        case measure => simp [intOf]; omega
      · have X := Lib.hid (st2 hx)
        have Y := Lib.hid HC.out.1
        have hxt : ((s[k].toNat : Int) == (b.toNat : Int)) = false := by
          cases h : ((s[k].toNat : Int) == (b.toNat : Int))
          · rfl
          · exact absurd (u8_eq.2 (by simpa using h)) hx
        clear HC st1 st2 hx
        go_wp2
        go_roundw
        case rel => exact ⟨pre, fr, k + 1, rfl, by go_num, by omega, by omega, hpre, ⟨Y.out, X.out⟩, hown, hbel⟩
        case measure => simp [intOf]; omega
    · obtain rfl : k = s.length := by omega
      have X := Lib.hid (show cutB b s = pre ++ [s.drop fr] by
        rw [HC.out.1, cutB_last _ _ (by have := HC.out.2; rwa [List.take_of_length_le (by simp)] at this)])
      clear HC
      go_wp2_with (at_builtin; refine wpList_append_own _ rfl _ _ 51 rfl w.heap.size 9 i0 (.string ByteArray.empty) 1 16 Tryz.underlying51 hi hz0 hz1 hz2 rfl (by decide) _ _ _ rfl (hown.alloc _) ⟨wr.heap.size, 0, none⟩ 1 1 [.string (S (s.drop fr))] rfl rfl (cell_new1 _ _ _) (by simp [Value.oneCell']) (by unfold maxLen; omega) (by omega) (by have := hbel.size; simp; omega) ?_; intro v' w1 hown1 hgr1 _)
      have hown1' : w1.ownsRow w.heap.size 9 1 v' (pre ++ [(s.drop fr)]).length (strs (pre ++ [(s.drop fr)])) := by
        have e1 : (pre ++ [(s.drop fr)]).length = pre.length + 1 := by simp
        have e2 : strs (pre ++ [(s.drop fr)]) = strs pre ++ [Value.string (S (s.drop fr))] := by simp [strs]
        rw [e1, e2]; exact hown1
      have hbel1 : Below w.heap.size w w1 := (hbel.alloc hbel.size _).grown hgr1 (by have := hbel.size; simp; omega) (fun q hq => ((hown.alloc (.cells #[.string (S (s.drop fr))] 9)).lt q hq).1)
      clear hown1 hgr1 hown
      go_wp2
      go_ret
      exact ⟨_, rfl, by rw [X.out]; exact hown1', hbel1⟩
end Go.Proofs.YtkooakadckjpkaaGreatDoor
