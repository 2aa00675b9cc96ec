/-
  api.Tell: nil: 0 and -1; a number: it and -1; a number with a place: both.
-/
import Derived.Deep.QuietTactic
import Derived.BigQuiet
import Derived.WalkSmall
import Derived.Test.YtpkabccinhfmbaaGreatDoorY12
set_option linter.unusedVariables false
set_option linter.unusedSimpArgs false
namespace Go.Proofs.YtpkabccinhfmbaaGreatDoor
open Go.RowKit

theorem tell_nil (w : World) : Calls Tryz.prog 15 #[.nilIface] w fun e w' => e = .returned (.tuple #[.int .i64 0, .int .i64 (-1)]) ∧ Below w.heap.size w w' := by
  go_enter Tryz.func15, Tryz.ntmps15
  go_wp2
  go_ret2
  exact ⟨rfl, ((Below.refl _ _).alloc (Nat.le_refl _) _).alloc (by simp) _⟩

theorem below_allocs {B : Nat} {w : World} (hB : B ≤ w.heap.size) (o1 o2 o3 o4 : Obj) : Below B w ((((w.alloc o1).alloc o2).alloc o3).alloc o4) :=
  ((((Below.refl B w).alloc hB o1).alloc (by simp; omega) o2).alloc (by simp; omega) o3).alloc (by simp; omega) o4

theorem asA_hit2 (e t : Addr) (old : Value) (w : World) (hg : ErrT w) (ht0 : w.cell? t = some old) (hf0 : w.frozen? t = false) :
    Calls Tryz.prog 24 #[.iface 62 (.pointer (some e)), .iface 64 (.pointer (some t))] w fun ev w' => ev = .returned (.bool true) ∧ w'.cell? t = some (.pointer (some e)) ∧ Below t.block w w' := by
  have htl : t.block < w.heap.size := World.block_lt_of_cell? w _ ht0
  refine (asA_hit e t old w hg ht0 hf0).mono fun ev w' ⟨h1, h2⟩ => ⟨h1, ?_, ?_⟩
  · rw [h2]
    exact World.cell?_setCell_same _ _ _ (((below_allocs (Nat.le_refl _) _ _ _ _).cell htl).trans ht0)
  · rw [h2]
    exact (below_allocs (Nat.le_of_lt htl) _ _ _ _).setCell (Nat.le_refl _) _
theorem asN_hit2 (n : Int) (t : Addr) (old : Value) (w : World) (hg : ErrT w) (ht0 : w.cell? t = some old) (hf0 : w.frozen? t = false) :
    Calls Tryz.prog 24 #[.iface 26 (.int .i64 n), .iface 67 (.pointer (some t))] w fun ev w' => ev = .returned (.bool true) ∧ w'.cell? t = some (.int .i64 n) ∧ Below t.block w w' := by
  have htl : t.block < w.heap.size := World.block_lt_of_cell? w _ ht0
  refine (asN_hit n t old w hg ht0 hf0).mono fun ev w' ⟨h1, h2⟩ => ⟨h1, ?_, ?_⟩
  · rw [h2]
    exact World.cell?_setCell_same _ _ _ (((below_allocs (Nat.le_refl _) _ _ _ _).cell htl).trans ht0)
  · rw [h2]
    exact (below_allocs (Nat.le_of_lt htl) _ _ _ _).setCell (Nat.le_refl _) _
theorem asA_miss2 (n : Int) (t : Addr) (old : Value) (w : World) (hg : ErrT w) (ht0 : w.cell? t = some old) :
    Calls Tryz.prog 24 #[.iface 26 (.int .i64 n), .iface 64 (.pointer (some t))] w fun ev w' => ev = .returned (.bool false) ∧ Below w.heap.size w w' := by
  refine (asA_miss n t old w hg ht0).mono fun ev w' ⟨h1, h2⟩ => ⟨h1, ?_⟩
  rw [h2]
  exact (((Below.refl _ w).alloc (Nat.le_refl _) _).alloc (by simp) _).alloc (by simp; omega) _

theorem two_newT (w : World) (a b : Value) (s t : TypeId) : Below w.heap.size w ((w.alloc (.cells #[a] s)).alloc (.cells #[b] t)) ∧
    ((w.alloc (.cells #[a] s)).alloc (.cells #[b] t)).cell? ⟨w.heap.size, 0, none⟩ = some a ∧ ((w.alloc (.cells #[a] s)).alloc (.cells #[b] t)).frozen? ⟨w.heap.size, 0, none⟩ = false ∧
    ((w.alloc (.cells #[a] s)).alloc (.cells #[b] t)).cell? ⟨w.heap.size + 1, 0, none⟩ = some b ∧ ((w.alloc (.cells #[a] s)).alloc (.cells #[b] t)).frozen? ⟨w.heap.size + 1, 0, none⟩ = false ∧
    ((w.alloc (.cells #[a] s)).alloc (.cells #[b] t)).heap.size = w.heap.size + 2 :=
  ⟨((Below.refl _ _).alloc (Nat.le_refl _) _).alloc (by simp) _, by simp, by simp, by simp, by simp, by simp⟩

set_option maxHeartbeats 4000000 in
theorem tell_errno (n : Int) (w : World) (hg : ErrT w) : Calls Tryz.prog 15 #[.iface 26 (.int .i64 n)] w fun e w' => e = .returned (.tuple #[.int .i64 n, .int .i64 (-1)]) ∧ Below w.heap.size w w' := by
  obtain ⟨hb0, c0, f0, c1, f1, hz⟩ := two_newT w (.pointer none) (.int .i64 0) 62 26
  have HC := Lib.hid (And.intro hb0 (And.intro c0 (And.intro c1 (And.intro f1 hz))))
  have hg0 := Lib.hid (hg.below hb0)
  clear hg hb0 c0 f0 c1 f1 hz
  go_enter Tryz.func15, Tryz.ntmps15
  go_wp2_with fail
  refine (asA_miss2 n ⟨w.heap.size, 0, none⟩ (.pointer none) _ hg0.out HC.out.2.1).mono ?_
  rintro e w1 ⟨rfl, hb1⟩
  have hc1 := Lib.hid ((hb1.cell (p := ⟨w.heap.size + 1, 0, none⟩) (by rw [HC.out.2.2.2.2]; exact Nat.lt_succ_self _)).trans HC.out.2.2.1)
  have hf1 := Lib.hid ((hb1.frozen (p := ⟨w.heap.size + 1, 0, none⟩) (by rw [HC.out.2.2.2.2]; exact Nat.lt_succ_self _)).trans HC.out.2.2.2.1)
  have hg1 := Lib.hid (hg0.out.below hb1)
  have hbw := Lib.hid (HC.out.1.trans (hb1.mono HC.out.1.size))
  clear hb1 hg0 HC
  go_wp2_with fail
  refine (asN_hit2 n ⟨w.heap.size + 1, 0, none⟩ (.int .i64 0) _ hg1.out hc1.out hf1.out).mono ?_
  rintro e w2 ⟨rfl, hc2, hb2⟩
  clear hc1 hf1 hg1
  go_wp2
  go_ret2
  exact ⟨rfl, hbw.out.trans (hb2.mono (Nat.le_succ _))⟩

set_option maxHeartbeats 4000000 in
theorem tell_at (b o : Nat) (n p : Int) (w : World) (hg : ErrT w) (h0 : w.cell? ⟨b, o, none⟩ = some (.int .i64 n)) (h1 : w.cell? ⟨b, o + 1, none⟩ = some (.int .i64 p)) :
    Calls Tryz.prog 15 #[.iface 62 (.pointer (some ⟨b, o, none⟩))] w fun e w' => e = .returned (.tuple #[.int .i64 n, .int .i64 p]) ∧ Below w.heap.size w w' := by
  obtain ⟨hb0, c0, f0, c1, f1, hz⟩ := two_newT w (.pointer none) (.int .i64 0) 62 26
  have HC := Lib.hid (And.intro hb0 (And.intro c0 f0))
  have hg0 := Lib.hid (hg.below hb0)
  have hbb : b < w.heap.size := World.block_lt_of_cell? w _ h0
  have H0 := Lib.hid h0
  have H1 := Lib.hid h1
  clear hg hb0 c0 f0 c1 f1 hz h0 h1
  go_enter Tryz.func15, Tryz.ntmps15
  go_wp2_with fail
  refine (asA_hit2 ⟨b, o, none⟩ ⟨w.heap.size, 0, none⟩ (.pointer none) _ hg0.out HC.out.2.1 HC.out.2.2).mono ?_
  rintro e w1 ⟨rfl, hc1, hb1⟩
  have hbw := Lib.hid (HC.out.1.trans hb1)
  have g0 := (hbw.out.cell (p := ⟨b, o, none⟩) hbb).trans H0.out
  have g1 := (hbw.out.cell (p := ⟨b, o + 1, none⟩) hbb).trans H1.out
  clear hg0 HC hb1 H0 H1
  go_wp2
  go_quiet (fail)
  go_wp2
  go_ret2
  exact ⟨rfl, below_drewN hbw.out _⟩
end Go.Proofs.YtpkabccinhfmbaaGreatDoor
