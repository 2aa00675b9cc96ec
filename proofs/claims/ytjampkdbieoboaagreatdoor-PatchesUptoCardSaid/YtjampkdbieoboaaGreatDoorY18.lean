/-
  The program: an error with its place; the law's own words: two lists that are the same, the document's example.
-/
import Derived.BigRegion
import Derived.Deep.Cut
import Derived.Test.YtjampkdbieoboaaGreatDoorY03
import Derived.Test.YtjampkdbieoboaaGreatDoorY11
import Derived.Test.YtjampkdbieoboaaGreatDoorY17
set_option linter.unusedVariables false
set_option linter.unusedSimpArgs false
namespace Go.Proofs.YtjampkdbieoboaaGreatDoor
open Go.RowKit

theorem atP_any (n : Int) (k : Nat) (w : World) (hn : ¬ n = 0) :
    Calls Tryz.prog 21 #[.int .i64 n, .int .i64 k] w fun e w' => ∃ g, e = .returned (.iface 56 (.pointer (some ⟨g, 0, none⟩))) ∧ w'.cell? ⟨g, 0, none⟩ = some (.int .i64 n) ∧ w'.cell? ⟨g, 0 + 1, none⟩ = some (.int .i64 k) ∧ Below w.heap.size w w' := by
  have h1 : ¬ (k : Int) < 0 := by omega
  have f0 : (n == 0) = false := by simpa using hn
  go_enter Tryz.func21, Tryz.ntmps21
  go_wp2
  go_ret
  exact ⟨w.heap.size, rfl, by simp, by simp, (Below.refl _ _).alloc (Nat.le_refl _) _⟩
theorem atN_any (n : Int) (w : World) (hn : ¬ n = 0) :
    Calls Tryz.prog 21 #[.int .i64 n, .int .i64 (-1)] w fun e w' => e = .returned (.iface 24 (.int .i64 n)) ∧ Below w.heap.size w w' := by
  have f0 : (n == 0) = false := by simpa using hn
  go_enter Tryz.func21, Tryz.ntmps21
  go_wp2
  go_ret
  exact ⟨rfl, Below.refl _ _⟩
theorem below_drew {B : Nat} {a w : World} (h : Below B a w) : Below B a w.drew := ⟨h.os, h.tape, h.output, h.size, h.block⟩
theorem rd_alloc (w : World) (cs : List Value) (t : TypeId) : Rd (w.alloc (.cells cs.toArray t)) (some ⟨w.heap.size, 0, none⟩) cs := by
  refine .inr ⟨_, 0, rfl, fun i u hu => ?_⟩
  rw [cell_of_row _ _ _ _ _ _ (Go.heap_alloc_new w _)]
  simpa using hu
def exTree : List Ent := [⟨[97], 1, 493, []⟩, ⟨[97, 47, 120], 2, 420, [104, 105]⟩, ⟨[108], 3, 0, [97, 47, 120]⟩]
theorem tree_any (w : World) :
    Calls Tryz.prog 5 #[] w fun e w' => ∃ A, e = .returned (.slice A exTree.length 3) ∧ A ≠ none ∧ Rd w' A (ents exTree) ∧ Below w.heap.size w w' := by
  go_enter Tryz.func5, Tryz.ntmps5
  go_wp2
  go_ret
  exact ⟨_, rfl, by simp, rd_alloc w (ents exTree) _, (Below.refl _ _).alloc (Nat.le_refl _) _⟩
set_option maxRecDepth 100000 in
set_option maxHeartbeats 4000000 in
theorem sameE_any (l : List Ent) (A B : Option Addr) (capA capB : Nat) (w : World) (ha : Rd w A (ents l)) (hb : Rd w B (ents l)) (hl : l.length ≤ 2000000000) :
    Calls Tryz.prog 9 #[.slice A l.length capA, .slice B l.length capB] w fun e w' => e = .returned (.bool true) ∧ Below w.heap.size w w' := by
  have HA := Lib.hid ha
  have HBb := Lib.hid hb
  clear ha hb
  go_enter Tryz.func9, Tryz.ntmps9
  go_wp2
  go_loopw [5] (fun i wr => ∃ k : Nat, k ≤ l.length ∧ i = .int .i64 k ∧ Hid (Below w.heap.size w wr)) (fun i _ => l.length - (intOf i).toNat)
  case atStart => exact ⟨0, Nat.zero_le _, rfl, Lib.hid (Below.refl _ _)⟩
  case round =>
    obtain ⟨k, hk, rfl, HB⟩ := hrel
    by_cases hlt : k < l.length
    · obtain ⟨b, o, hBe, hbb, g0, g1, g2, g3⟩ := ents_at HA.out HB.out k hlt
      obtain ⟨b2, o2, hBe2, hbb2, e0, e1, e2, e3⟩ := ents_at HBb.out HB.out k hlt
      subst hBe hBe2
      obtain ⟨c, hcc⟩ : ∃ c, l[k] = c := ⟨_, rfl⟩
      rw [hcc] at g0 g1 g2 g3 e0 e1 e2 e3
      have hkl : (k : Int) < (l.length : Int) := by omega
      clear hcc
      go_upto_region 6 with fail
      go_region
      go_wp2
      go_roundw
      case rel => exact ⟨k + 1, by omega, by go_num, Lib.hid (below_drew HB.out)⟩
      case measure => simp [intOf]; omega
    · obtain rfl : k = l.length := by omega
      go_wp2
      go_ret
      exact ⟨rfl, HB.out⟩
end Go.Proofs.YtjampkdbieoboaaGreatDoor
