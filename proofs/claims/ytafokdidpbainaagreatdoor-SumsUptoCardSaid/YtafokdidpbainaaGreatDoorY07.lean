/-
  The program: numerals in octal and in decimal digits.
-/
import Derived.Test.YtafokdidpbainaaGreatDoorY05
import Derived.Test.YtafokdidpbainaaGreatDoorShelf
import Derived.Test.YtafokdidpbainaaGreatDoorY06
set_option linter.unusedVariables false
set_option linter.unusedSimpArgs false
namespace Go.Proofs.YtafokdidpbainaaGreatDoor
open Go.RowKit

theorem formatI_any (n : Nat) (w : World) (hT : Tz w) (hn : n < 4294967290) :
    Calls Tryz.prog 109 #[.int .i64 n, .int .i64 8] w fun e w' => e = .returned (.string (S (octB n))) ∧ Below w.heap.size w w' := by
  go_enter Tryz.func109, Tryz.ntmps109
  go_wp2_with fail
  refine (formatBits_any n _ hT hn).mono ?_
  rintro e w1 ⟨rfl, hb1⟩
  go_wp2_with fail
  go_ret
  exact ⟨rfl, hb1⟩
theorem format_any (n : Nat) (w : World) (hT : Tz w) (hn : n < 4294967290) :
    Calls Tryz.prog 99 #[.int .i64 n, .int .i64 8] w fun e w' => e = .returned (.string (S (octB n))) ∧ Below w.heap.size w w' := by
  go_enter Tryz.func99, Tryz.ntmps99
  go_wp2_with fail
  refine (formatI_any n _ hT hn).mono ?_
  rintro e w1 ⟨rfl, hb1⟩
  go_wp2_with fail
  go_ret
  exact ⟨rfl, hb1⟩
theorem octalG_any (n : Nat) (w : World) (hT : Tz w) (hn : n < 4294967290) :
    Calls Tryz.prog 77 #[.int .i64 n] w fun e w' => e = .returned (.string (S (octB n))) ∧ Below w.heap.size w w' := by
  go_enter Tryz.func77, Tryz.ntmps77
  go_wp2_with fail
  refine (format_any n _ hT hn).mono ?_
  rintro e w1 ⟨rfl, hb1⟩
  go_wp2_with fail
  go_ret
  exact ⟨rfl, hb1⟩
/-- the library's table of powers -/
def PT (w : World) : Prop := Lib.TabIs Tryz.prog w "internal/strconv.uint64pow10" .u64 Lib.pow10Tab
theorem PT.below {w w' : World} (h : PT w) (hb : Below w.heap.size w w') : PT w' := by
  unfold PT Lib.TabIs World.var? at *
  cases hg : Tryz.prog.globalNamed "internal/strconv.uint64pow10" with
  | none => rw [hg] at h; cases h
  | some g =>
    rw [hg] at h
    simp only [Option.bind_some] at h ⊢
    have hlt : g < w.heap.size := by
      rcases Nat.lt_or_ge g w.heap.size with h2 | h2
      · exact h2
      · rw [Array.getElem?_eq_none h2] at h; cases h
    rw [hb.block g hlt]; exact h
theorem itoa_any (n : Nat) (w : World) (hT : PT w) (hn : n < 4294967290) :
    Calls Tryz.prog 78 #[.int .i64 n] w fun e w' => e = .returned (.string (S (Lib.decDigits n))) ∧ Below w.heap.size w w' := by
  refine (Tryz.strconv_Itoa (n : Int) (by omega) (by omega) w hT).mono ?_
  rintro e w' ⟨rfl, k, os, rfl⟩
  refine ⟨?_, ?_⟩
  · have : Lib.itoa (n : Int) = Lib.decDigits n := by unfold Lib.itoa; rw [if_neg (by omega)]; rfl
    rw [this]; rfl
  · refine ⟨rfl, rfl, rfl, ?_, fun j hj => ?_⟩
    · show w.heap.size ≤ (w.heap ++ os).size
      rw [Array.size_append]; omega
    · show (w.heap ++ os)[j]? = w.heap[j]?
      rw [Array.getElem?_append_left hj]
/-- what the sums read of tables -/
structure Tabs (w : World) : Prop where
  keys : Keys w
  starts : Starts w
  tz : Tz w
  pt : PT w
theorem Tabs.below {w w' : World} (h : Tabs w) (hb : Below w.heap.size w w') : Tabs w' := ⟨h.keys.below hb, h.starts.below hb, h.tz.below hb, h.pt.below hb⟩
end Go.Proofs.YtafokdidpbainaaGreatDoor
