/-
  The program: the library's digits to the base eight.
-/
import Derived.Deep.DeepCutAuto
import Derived.Test.YtkdplkhnkimhpaaGreatDoorY05
import Derived.Test.YtkdplkhnkimhpaaGreatDoorY08
set_option linter.unusedVariables false
set_option linter.unusedSimpArgs false
namespace Go.Proofs.YtkdplkhnkimhpaaGreatDoor
open Go.RowKit

/-- the digits laid so far, from q on -/
def digRow (q : Nat) (D : List UInt8) (j : Nat) : Value := if q ≤ j then .int .u8 ((D.getD (j - q) 0).toNat : Int) else .int .u8 0
theorem and7 (m : Nat) : Go.bits BinOp.and IntKind.u64 (m : Int) 7 = ((m % 8 : Nat) : Int) := by
  show IntKind.u64.wrap ((BitVec.ofInt 64 (m : Int) &&& BitVec.ofInt 64 7).toNat : Int) = _
  have h : (BitVec.ofInt 64 (m : Int) &&& BitVec.ofInt 64 7).toNat = m % 8 := by
    rw [BitVec.toNat_and, show (BitVec.ofInt 64 7).toNat = 2 ^ 3 - 1 from rfl, Nat.and_two_pow_sub_one_eq_mod, BitVec.toNat_ofInt]
    omega
  rw [h, IntKind.wrap_u64]; omega

theorem dig36 : ∀ (q : Nat) (h : q < 36), q < 8 → [48, 49, 50, 51, 52, 53, 54, 55, 56, 57, 97, 98, 99, 100, 101, 102, 103, 104, 105, 106, 107, 108, 109, 110, 111, 112, 113, 114, 115, 116, 117, 118, 119, 120, 121, (122 : UInt8)][q]'h = UInt8.ofNat (48 + q) := by
  intro q h h8
  have : q = 0 ∨ q = 1 ∨ q = 2 ∨ q = 3 ∨ q = 4 ∨ q = 5 ∨ q = 6 ∨ q = 7 := by omega
  rcases this with rfl | rfl | rfl | rfl | rfl | rfl | rfl | rfl <;> rfl
set_option maxRecDepth 100000 in
set_option maxHeartbeats 2000000 in
theorem formatBits_any (n : Nat) (w : World) (hT : Tz w) (hn : n < 4294967290) :
    Calls Tryz.prog 162 #[.slice none 0 0, .int .u64 n, .int .i64 8, .bool false, .bool false] w fun e w' => e = .returned (.tuple #[.slice none 0 0, .string (S (octB n))]) ∧ Below w.heap.size w w' := by
  go_enter Tryz.func162, Tryz.ntmps162
  go_wp2_with fail
  refine (isPow_any _).mono ?_
  rintro e w' ⟨rfl, rfl⟩
  go_wp2_with fail
  have hrow : (w.alloc (.cells Tryz.zeroCells251 251)).rowIs w.heap.size 251 65 (fun _ => .int .u8 0) := by
    have ez : Tryz.zeroCells251 = Array.replicate 65 (Value.int .u8 0) := by kernel_rfl
    rw [ez]
    have := World.rowIs_alloc w (Array.replicate 65 (Value.int .u8 0)) 251 (fun _ => .int .u8 0) (by
      intro i hi; rw [Array.size_replicate] at hi; rw [Array.getElem?_replicate, if_pos hi])
    rw [Array.size_replicate] at this; exact this
  have hb0 := (Below.refl w.heap.size w).alloc (Nat.le_refl _) (.cells Tryz.zeroCells251 251)
  generalize hW : w.alloc (.cells Tryz.zeroCells251 251) = w1 at hrow hb0 ⊢
  refine (tz_any _ (hT.below hb0)).mono ?_
  rintro e w' ⟨rfl, rfl⟩
  go_wp2_with fail
  go_loopw [1, 13] (fun u i wr => ∃ (m r : Nat) (D : List UInt8), u = .int .u64 m ∧ i = .int .i64 (r + 1 : Nat) ∧ r + 1 + D.length = 65 ∧ m ≤ n ∧ Hid (octB n = octB m ++ D) ∧ Hid (wr.rowIs w.heap.size 251 65 (digRow (r + 1) D)) ∧ Hid (Below w.heap.size w wr)) (fun u _ _ => (intOf u).toNat)
  case atStart => exact ⟨n, 64, [], rfl, rfl, rfl, Nat.le_refl _, by simp [Hid], hrow.congr (fun j hj => by unfold digRow; rw [if_neg (by omega)]), hb0⟩
  case round =>
    obtain ⟨m, r, D, rfl, rfl, hl, hmn, hO, hR, hB⟩ := hrel
    have hl2 : D.length ≤ 10 := by
      have h1 := congrArg List.length hO.out
      have h2 := octB_len n 10 (by omega)
      have h3 := octB_pos m
      rw [List.length_append] at h1; omega
    have hc := Lib.hid (hR.out.cell (i := r) (by omega))
    have hfz := hR.out.frozen r
    have hc0 := hc.out
    rw [show digRow (r + 1) D r = .int .u8 0 by unfold digRow; rw [if_neg (by omega)]] at hc0
    by_cases hlt : 8 ≤ m
    · have h7 := and7 m
      have X := Lib.hid (octB_big (n := m) (by omega))
      have h8 : m % 8 < 8 := Nat.mod_lt _ (by omega)
      go_wp2_with fail
      go_round
      case rel =>
        refine ⟨m / 8, r - 1, UInt8.ofNat (48 + m % 8) :: D, by go_num, ?_, by rw [List.length_cons]; omega, by omega, ?_, ?_, ?_⟩
        · rw [show r - 1 + 1 = r by omega]
        · show octB n = _
          rw [hO.out, X.out]; simp
        · refine (hR.out.set r _).congr fun j hj => ?_
          rw [show r - 1 + 1 = r by omega]
          have hd := dig36 (m % 8) (by omega) h8
          by_cases hj1 : j = r
          · subst hj1
            rw [if_pos rfl, hd]; unfold digRow
            rw [if_pos (Nat.le_refl _), Nat.sub_self]; rfl
          · rw [if_neg hj1]; unfold digRow
            by_cases hj2 : r + 1 ≤ j
            · rw [if_pos hj2, if_pos (by omega), show j - r = (j - (r + 1)) + 1 by omega, List.getD_cons_succ]
            · rw [if_neg hj2, if_neg (by omega)]
        · exact hB.out.setCell (Nat.le_refl _) _
      case measure => simp [intOf]; omega
    · have hdm := dig36 m (by omega) (by omega)
      have hru : ∀ w' : World, (Instr.sliceAt 251 (.pointer (some ⟨w.heap.size, 0, none⟩)) (some (.int .i64 (r : Int))) none none).run Tryz.prog w' = .ok (.slice (some ⟨w.heap.size, r, none⟩) (65 - r) (65 - r)) w' := by
        have e : Tryz.prog.arrayLen 251 = 65 := by kernel_rfl
        intro w'
        rw [run_sliceAt_array_l (P := Tryz.prog) w' 251 ⟨w.heap.size, 0, none⟩ (by kernel_rfl) .i64 (r : Int) (by omega) (by rw [e]; omega), e]
        rw [show (sizeOf (Tryz.prog.elem 251)).run Tryz.prog w' = .ok 1 w' from by kernel_rfl]
        simp only [Result.andThen, slicedAt]
        rw [if_neg (by omega)]
        simp [Addr.add]
        try omega
      have hrow2 := hR.out.set r (.int .u8 ((UInt8.ofNat (48 + m)).toNat : Int))
      have hl3 : (UInt8.ofNat (48 + m) :: D).length = 65 - r := by rw [List.length_cons]; omega
      have hcv := run_convert_bytes_back (P := Tryz.prog) (wr.setCell ⟨w.heap.size, r, none⟩ (.int .u8 ((UInt8.ofNat (48 + m)).toNat : Int))) 124 9 5 ⟨w.heap.size, r, none⟩ (65 - r) (UInt8.ofNat (48 + m) :: D) (by kernel_rfl) (by kernel_rfl) (by kernel_rfl) (by
        intro j hj
        rw [show Addr.add ⟨w.heap.size, r, none⟩ j = ⟨w.heap.size, r + j, none⟩ from by simp [Addr.add]]
        rw [hrow2.cell (by rw [hl3] at hj; omega)]
        cases j with
        | zero => rw [Nat.add_zero, if_pos rfl]; rfl
        | succ j =>
          rw [if_neg (by omega)]; unfold digRow
          rw [if_pos (by omega), show r + (j + 1) - (r + 1) = j by omega, List.getElem_cons_succ, List.getD_eq_getElem?_getD, List.getElem?_eq_getElem (by simpa using hj)]; rfl)
      rw [hl3] at hcv
      have X := Lib.hid (show octB n = (48 + UInt8.ofNat m) :: D by rw [hO.out, octB_small (by omega)]; simp)
      have hB2 := Lib.hid (hB.out.setCell (Nat.le_refl _) (p := ⟨w.heap.size, r, none⟩) (.int .u8 ((48 + (m : Int)) % 256)))
      clear hrow2 hl3
      have hm36 : 0 ≤ (m : Int) ∧ (m : Int) < 36 := by omega
      have e8 : (48 + (m : Int)) % 256 = ((UInt8.ofNat (48 + m)).toNat : Int) := by simp
      rw [← e8] at hcv
      clear e8
      go_wp2_with fail
      go_ret2
      exact ⟨by rw [X.out]; rfl, hB2.out⟩
end Go.Proofs.YtkdplkhnkimhpaaGreatDoor
