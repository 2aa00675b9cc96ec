import Derived.BigQuiet
import Derived.Test.YtikdblkfjchjbaaGreatDoorY28
set_option linter.unusedVariables false
set_option linter.unusedSimpArgs false
set_option maxHeartbeats 16000000
set_option maxRecDepth 100000
namespace Go.Proofs.YtikdblkfjchjbaaGreatDoor
open Go.RowKit
theorem qkb (w : World) : Calls Tryz.prog 19 #[.nilIface] w fun e w' => e = .returned (.tuple #[.int .i64 0, .int .i64 (-1)]) ∧ Below w.heap.size w w' := by
 go_enter Tryz.func19, Tryz.ntmps19;go_wp2;go_ret2;exact ⟨rfl, ((Below.refl _ _).alloc (Nat.le_refl _) _).alloc (by simp) _⟩
theorem qfe {B : Nat} {w : World} (hB : B ≤ w.heap.size) (o1 o2 o3 o4 : Obj) : Below B w ((((w.alloc o1).alloc o2).alloc o3).alloc o4) :=
 ((((Below.refl B w).alloc hB o1).alloc (by simp; omega) o2).alloc (by simp; omega) o3).alloc (by simp; omega) o4
theorem qtl (e t : Addr) (old : Value) (w : World) (hg : ErrT w) (ht0 : w.cell? t = some old) (hf0 : w.frozen? t = false) :
 Calls Tryz.prog 32 #[.iface 80 (.pointer (some e)), .iface 82 (.pointer (some t))] w fun ev w' => ev = .returned (.bool true) ∧ w'.cell? t = some (.pointer (some e)) ∧ Below t.block w w' := by
 have htl : t.block < w.heap.size := q40 w _ ht0;refine (q3h e t old w hg ht0 hf0).mono fun ev w' ⟨h1, h2⟩ => ⟨h1, ?_, ?_⟩
 ·rw [h2]
  exact World.cell?_setCell_same _ _ _ (((qfe (Nat.le_refl _) _ _ _ _).cell htl).trans ht0)
 ·rw [h2]
  exact (qfe (Nat.le_of_lt htl) _ _ _ _).setCell (Nat.le_refl _) _
theorem q1s (n : Int) (t : Addr) (old : Value) (w : World) (hg : ErrT w) (ht0 : w.cell? t = some old) (hf0 : w.frozen? t = false) :
 Calls Tryz.prog 32 #[.iface 27 (.int .i64 n), .iface 85 (.pointer (some t))] w fun ev w' => ev = .returned (.bool true) ∧ w'.cell? t = some (.int .i64 n) ∧ Below t.block w w' := by
 have htl : t.block < w.heap.size := q40 w _ ht0;refine (q3g n t old w hg ht0 hf0).mono fun ev w' ⟨h1, h2⟩ => ⟨h1, ?_, ?_⟩
 ·rw [h2]
  exact World.cell?_setCell_same _ _ _ (((qfe (Nat.le_refl _) _ _ _ _).cell htl).trans ht0)
 ·rw [h2]
  exact (qfe (Nat.le_of_lt htl) _ _ _ _).setCell (Nat.le_refl _) _
theorem qzd (n : Int) (t : Addr) (old : Value) (w : World) (hg : ErrT w) (ht0 : w.cell? t = some old) :
 Calls Tryz.prog 32 #[.iface 27 (.int .i64 n), .iface 82 (.pointer (some t))] w fun ev w' => ev = .returned (.bool false) ∧ Below w.heap.size w w' := by
 refine (q1t n t old w hg ht0).mono fun ev w' ⟨h1, h2⟩ => ⟨h1, ?_⟩
 rw [h2];exact (((Below.refl _ w).alloc (Nat.le_refl _) _).alloc (by simp) _).alloc (by simp; omega) _
theorem qsr (w : World) (a b : Value) (s t : TypeId) : Below w.heap.size w ((w.alloc (.cells #[a] s)).alloc (.cells #[b] t)) ∧
 ((w.alloc (.cells #[a] s)).alloc (.cells #[b] t)).cell? ⟨w.heap.size, 0, none⟩ = some a ∧ ((w.alloc (.cells #[a] s)).alloc (.cells #[b] t)).frozen? ⟨w.heap.size, 0, none⟩ = false ∧
 ((w.alloc (.cells #[a] s)).alloc (.cells #[b] t)).cell? ⟨w.heap.size + 1, 0, none⟩ = some b ∧ ((w.alloc (.cells #[a] s)).alloc (.cells #[b] t)).frozen? ⟨w.heap.size + 1, 0, none⟩ = false ∧
 ((w.alloc (.cells #[a] s)).alloc (.cells #[b] t)).heap.size = w.heap.size + 2 :=
 ⟨((Below.refl _ _).alloc (Nat.le_refl _) _).alloc (by simp) _, by simp, by simp, by simp, by simp, by simp⟩
theorem qt3 (n : Int) (w : World) (hg : ErrT w) : Calls Tryz.prog 19 #[.iface 27 (.int .i64 n)] w fun e w' => e = .returned (.tuple #[.int .i64 n, .int .i64 (-1)]) ∧ Below w.heap.size w w' := by
 obtain ⟨hb0, c0, f0, c1, f1, hz⟩ := qsr w (.pointer none) (.int .i64 0) 80 27;have HC := q4z (And.intro hb0 (And.intro c0 (And.intro c1 (And.intro f1 hz))));have hg0 := q4z (hg.below hb0);clear hg hb0 c0 f0 c1 f1 hz;go_enter Tryz.func19, Tryz.ntmps19;go_wp2_with fail;refine (qzd n ⟨w.heap.size, 0, none⟩ (.pointer none) _ hg0.out HC.out.2.1).mono ?_;rintro e w1 ⟨rfl, hb1⟩;have hc1 := q4z ((hb1.cell (p := ⟨w.heap.size + 1, 0, none⟩) (by rw [HC.out.2.2.2.2]; exact Nat.lt_succ_self _)).trans HC.out.2.2.1);have hf1 := q4z ((hb1.frozen (p := ⟨w.heap.size + 1, 0, none⟩) (by rw [HC.out.2.2.2.2]; exact Nat.lt_succ_self _)).trans HC.out.2.2.2.1);have hg1 := q4z (hg0.out.below hb1)
 have hbw := q4z (HC.out.1.trans (hb1.mono HC.out.1.size));clear hb1 hg0 HC;go_wp2_with fail;refine (q1s n ⟨w.heap.size + 1, 0, none⟩ (.int .i64 0) _ hg1.out hc1.out hf1.out).mono ?_;rintro e w2 ⟨rfl, hc2, hb2⟩;clear hc1 hf1 hg1;go_wp2;go_ret2;exact ⟨rfl, hbw.out.trans (hb2.mono (Nat.le_succ _))⟩
theorem qqw (b o : Nat) (n p : Int) (w : World) (hg : ErrT w) (h0 : w.cell? ⟨b, o, none⟩ = some (.int .i64 n)) (h1 : w.cell? ⟨b, o + 1, none⟩ = some (.int .i64 p)) :
 Calls Tryz.prog 19 #[.iface 80 (.pointer (some ⟨b, o, none⟩))] w fun e w' => e = .returned (.tuple #[.int .i64 n, .int .i64 p]) ∧ Below w.heap.size w w' := by
 obtain ⟨hb0, c0, f0, c1, f1, hz⟩ := qsr w (.pointer none) (.int .i64 0) 80 27;have HC := q4z (And.intro hb0 (And.intro c0 f0));have hg0 := q4z (hg.below hb0);have hbb : b < w.heap.size := q40 w _ h0;have H0 := q4z h0;have H1 := q4z h1;clear hg hb0 c0 f0 c1 f1 hz h0 h1;go_enter Tryz.func19, Tryz.ntmps19;go_wp2_with fail;refine (qtl ⟨b, o, none⟩ ⟨w.heap.size, 0, none⟩ (.pointer none) _ hg0.out HC.out.2.1 HC.out.2.2).mono ?_;rintro e w1 ⟨rfl, hc1, hb1⟩;have hbw := q4z (HC.out.1.trans hb1);have g0 := (hbw.out.cell (p := ⟨b, o, none⟩) hbb).trans H0.out;have g1 := (hbw.out.cell (p := ⟨b, o + 1, none⟩) hbb).trans H1.out;clear hg0 HC hb1 H0 H1;go_wp2;go_quiet (fail);go_wp2;go_ret2
 exact ⟨rfl, below_drewN hbw.out _⟩
end Go.Proofs.YtikdblkfjchjbaaGreatDoor
