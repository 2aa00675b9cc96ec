/-
  The document's answer: a number's octal digits; a text filled with noughts; a number in so many digits; a name in two.
-/
import Derived.Test.YtkooakadckjpkaaGreatDoorTarW
namespace Go.Proofs.YtkooakadckjpkaaGreatDoor
open Go.RowKit

theorem oct_digit : ∀ k : Nat, k < 8 → List.take (k + 1 - k) (List.drop k [48, 49, 50, 51, 52, 53, 54, (55 : UInt8)]) = [UInt8.ofNat (48 + k)] := by decide
set_option maxHeartbeats 1000000 in
theorem octal_any (n : Nat) (hn : n < 4294967290) (w : World) :
    Calls Tryz.prog 42 #[.int .i64 n] w fun e w' => e = .returned (.string (S (octB n))) ∧ w = w' := by
  induction n using Nat.strongRecOn generalizing w with
  | ind n ih =>
    have h8 : n % 8 < 8 := Nat.mod_lt _ (by omega)
    have hd := Lib.hid (oct_digit (n % 8) h8)
    by_cases h : n < 8
    · have X := Lib.hid (show octB n = [UInt8.ofNat (48 + n % 8)] by rw [octB_small h, Nat.mod_eq_of_lt h])
      clear ih
      go_enter Tryz.func42, Tryz.ntmps42
      go_wp2
      go_ret
      exact ⟨ret_str (by rw [X.out, hd.out]), rfl⟩
    · have X := Lib.hid (octB_big h)
      have hL : (octB (n / 8)).length ≤ 11 := octB_len (n / 8) 10 (by omega)
      have hI := Lib.hid (ih (n / 8) (by omega) (by omega))
      clear ih
      go_enter Tryz.func42, Tryz.ntmps42
      go_wp2_with fail
      refine (hI.out _).mono ?_
      rintro e w' ⟨rfl, rfl⟩
      go_wp2
      go_ret
      exact ⟨ret_str (by rw [X.out, ← hd.out, show n % 8 + 1 - n % 8 = 1 by omega]), rfl⟩

def sizeOf' : Value → Nat | .string b => b.size | _ => 0
theorem sizeOf'_S (s : List UInt8) : sizeOf' (.string (S s)) = s.length := rfl
set_option maxHeartbeats 1000000 in
theorem filled_any (s : List UInt8) (n : Nat) (hs : s.length ≤ 5000) (hn : n ≤ 5000) (w : World) :
    Calls Tryz.prog 14 #[.string (S s), .int .i64 n] w fun e w' => e = .returned (.string (S (filB s n))) ∧ w = w' := by
  go_enter Tryz.func14, Tryz.ntmps14
  go_wp2
  go_loop [0] (fun v => ∃ k : Nat, (k = 0 ∨ s.length + k ≤ n) ∧ v = .string (S (s ++ List.replicate k 0))) (fun v => n - sizeOf' v)
  case atStart => exact ⟨0, .inl rfl, by simp⟩
  case round =>
    obtain ⟨k, hk, rfl⟩ := hrel
    have hL : (s ++ List.replicate k (0 : UInt8)).length = s.length + k := by simp
    by_cases hlt : s.length + k < n
    · have HX := Lib.hid (show s ++ (List.replicate k (0 : UInt8) ++ [0]) = s ++ List.replicate (k + 1) (0 : UInt8) by rw [List.replicate_succ'])
      go_wp2
      go_round
      case rel => exact ⟨k + 1, by omega, str_eq HX.out⟩
      case measure => rw [sizeOf'_S, sizeOf'_S]; simp; omega
    · have HX := Lib.hid (show filB s n = s ++ List.replicate k (0 : UInt8) by unfold filB; congr 2; omega)
      go_wp2
      go_ret
      exact ⟨ret_str HX.out.symm, rfl⟩

set_option maxHeartbeats 1000000 in
theorem digits_any (v n : Nat) (hv : v < 4294967290) (hn : n ≤ 100) (hl : (octB v).length ≤ 100) (w : World) :
    Calls Tryz.prog 25 #[.int .i64 v, .int .i64 n] w fun e w' => e = .returned (.string (S (digB v n))) ∧ w = w' := by
  go_enter Tryz.func25, Tryz.ntmps25
  go_wp2_with fail
  refine (octal_any v hv _).mono ?_
  rintro e w' ⟨rfl, rfl⟩
  generalize hO : octB v = O at *
  have HO := Lib.hid hO
  clear hO
  go_wp2
  go_loop [5] (fun x => ∃ k : Nat, (k = 0 ∨ O.length + k ≤ n) ∧ x = .string (S (List.replicate k 48 ++ O))) (fun x => n - sizeOf' x)
  case atStart => exact ⟨0, .inl rfl, by simp⟩
  case round =>
    obtain ⟨k, hk, rfl⟩ := hrel
    have hL : (List.replicate k (48 : UInt8) ++ O).length = O.length + k := by simp; omega
    by_cases hlt : O.length + k < n
    · have HX := Lib.hid (show [48] ++ (List.replicate k (48 : UInt8) ++ O) = List.replicate (k + 1) (48 : UInt8) ++ O by rw [List.replicate_succ]; rfl)
      go_wp2
      go_round
      case rel => exact ⟨k + 1, by omega, str_eq HX.out⟩
      case measure => rw [sizeOf'_S, sizeOf'_S]; simp; omega
    · have HX := Lib.hid (show digB v n = List.replicate k (48 : UInt8) ++ (O ++ [0]) by unfold digB; rw [HO.out, List.append_assoc]; congr 2; omega)
      go_wp2
      go_ret
      exact ⟨ret_str HX.out.symm, rfl⟩

set_option maxHeartbeats 2000000 in
theorem splitR_any (s : List UInt8) (hs : s.length ≤ 5000) (w : World) :
    Calls Tryz.prog 24 #[.string (S s)] w fun e w' => e = .returned (.tuple #[.string (S (splB s).1), .string (S (splB s).2)]) ∧ Below w.heap.size w w' := by
  by_cases h1 : s.length ≤ 100
  · have X := Lib.hid (show splB s = ([], s) by unfold splB; rw [if_pos h1])
    go_enter Tryz.func24, Tryz.ntmps24
    go_wp2
    go_ret2
    exact ⟨by rw [X.out]; rfl, Below.refl _ _⟩
  go_enter Tryz.func24, Tryz.ntmps24
  go_wp2
  go_loop [4] (fun i => ∃ k : Nat, k ≤ s.length ∧ i = .int .i64 k ∧ Hid (slashB s 0 = slashB s k)) (fun i => s.length - (intOf i).toNat)
  case atStart => exact ⟨0, Nat.zero_le _, rfl, rfl⟩
  case round =>
    obtain ⟨k, hk, rfl, hS⟩ := hrel
    by_cases hlt : k < s.length
    · by_cases hc : s[k] = 47
      · by_cases h2 : s.length - k - 1 ≤ 100
        · have X := Lib.hid (show splB s = (s.take k, s.drop (k + 1)) by unfold splB; rw [if_neg h1, hS.out, slashB_here hlt hc h2, if_pos hlt])
          have hcc : s[k].toNat = 47 := by rw [hc]; rfl
          clear hc hS
          have hk2 : (k : Int) + 1 ≤ (s.length : Int) := by omega
          have hk3 : (0 : Int) ≤ (k : Int) := by omega
          have hk4 : (k : Int) ≤ (s.length : Int) := by omega
          go_wp2
          go_region
          all_goals go_wp2
          all_goals go_ret2
          all_goals exact ⟨by rw [X.out]; rfl, (Below.refl _ _).drew⟩
        · have Y := Lib.hid (show slashB s 0 = slashB s (k + 1) by rw [hS.out, slashB_next hlt (by intro h; exact h2 h.2)])
          have hcc : s[k].toNat = 47 := by rw [hc]; rfl
          clear hc hS
          go_wp2
          go_round
          case rel => exact ⟨k + 1, by omega, by go_num, Y⟩
          case measure => simp [intOf]; omega
      · have Y := Lib.hid (show slashB s 0 = slashB s (k + 1) by rw [hS.out, slashB_next hlt (by intro h; exact hc h.1)])
        have hcc : ¬ s[k].toNat = 47 := by intro h; exact hc (UInt8.toNat_inj.1 h)
        clear hc hS
        go_wp2
        all_goals
          go_round
          case rel => exact ⟨k + 1, by omega, by go_num, Y⟩
          case measure => simp [intOf]; omega
    · obtain rfl : k = s.length := by omega
      have X := Lib.hid (show splB s = ([], s) by unfold splB; rw [if_neg h1, hS.out, slashB_end hlt, if_neg (Nat.lt_irrefl _)])
      clear hS
      go_wp2
      go_ret2
      exact ⟨by rw [X.out]; rfl, Below.refl _ _⟩
end Go.Proofs.YtkooakadckjpkaaGreatDoor
