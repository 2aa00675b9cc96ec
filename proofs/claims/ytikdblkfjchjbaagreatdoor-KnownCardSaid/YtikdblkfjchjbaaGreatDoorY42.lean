import Derived.Deep.Cut
import Derived.Test.YtikdblkfjchjbaaGreatDoorY01
import Derived.Test.YtikdblkfjchjbaaGreatDoorY29
set_option linter.unusedVariables false
set_option linter.unusedSimpArgs false
set_option maxHeartbeats 16000000
set_option maxRecDepth 100000
namespace Go.Proofs.YtikdblkfjchjbaaGreatDoor
open Go.RowKit
theorem q3e (n : Int) (k : Nat) (w : World) (hn : ¬ n = 0) :
 Calls Tryz.prog 36 #[.int .i64 n, .int .i64 k] w fun e w' => ∃ g, e = .returned (.iface 80 (.pointer (some ⟨g, 0, none⟩))) ∧ w'.cell? ⟨g, 0, none⟩ = some (.int .i64 n) ∧ w'.cell? ⟨g, 0 + 1, none⟩ = some (.int .i64 k) ∧ Below w.heap.size w w' := by
 have h1 : ¬ (k : Int) < 0 := by omega
 have f0 : (n == 0) = false := by simpa using hn
 go_enter Tryz.func36, Tryz.ntmps36;go_wp2;go_ret;exact ⟨w.heap.size, rfl, by simp, by simp, (Below.refl _ _).alloc (Nat.le_refl _) _⟩
theorem q3f (n : Int) (w : World) (hn : ¬ n = 0) :
 Calls Tryz.prog 36 #[.int .i64 n, .int .i64 (-1)] w fun e w' => e = .returned (.iface 27 (.int .i64 n)) ∧ Below w.heap.size w w' := by
 have f0 : (n == 0) = false := by simpa using hn
 go_enter Tryz.func36, Tryz.ntmps36;go_wp2;go_ret;exact ⟨rfl, Below.refl _ _⟩
theorem qhl {l : List Ent} (h : First (qcb l) l.length (-1)) : l.length ≤ 40 ∧ Lists l (qa0 l) := by
 obtain h | ⟨_, h⟩ := h
 ·obtain ⟨i, _, h1, _⟩ := h; omega
 refine ⟨Classical.byContradiction fun hn => ?_, ?_⟩
 ·have h40 := h 40 (by omega)
  have hc : l[40]? = some l[40] := List.getElem?_eq_getElem (by omega);rw [qcq hc] at h40; simp at h40
 ·have := qu8 (k := l.length) (Nat.le_refl _) h
  rwa [List.take_length] at this
def qts (W w' : World) (er : Value) (f k : Int) : Prop :=
 (f = 0 ∧ k = -1 ∧ er = .nilIface) ∨ (f ≠ 0 ∧ k = -1 ∧ er = .iface 27 (.int .i64 f)) ∨
 (∃ g : Nat, er = .iface 80 (.pointer (some ⟨g, 0, none⟩)) ∧ w'.cell? ⟨g, 0, none⟩ = some (.int .i64 f) ∧ w'.cell? ⟨g, 0 + 1, none⟩ = some (.int .i64 k))
theorem qql (f k : Int) (W w : World) (hf : f ≠ 0) (hk : k = -1 ∨ 0 ≤ k) :
 Calls Tryz.prog 36 #[.int .i64 f, .int .i64 k] w fun e w' => ∃ er, e = .returned er ∧ qts W w' er f k ∧ Below w.heap.size w w' := by
 rcases hk with rfl | hk
 ·refine (q3f f w hf).mono ?_
  rintro e w' ⟨rfl, hb⟩;exact ⟨_, rfl, .inr (.inl ⟨hf, rfl, rfl⟩), hb⟩
 ·obtain ⟨n, rfl⟩ : ∃ n : Nat, k = n := ⟨k.toNat, by omega⟩
  refine (q3e f n w hf).mono ?_;rintro e w' ⟨g, rfl, h0, h1, hb⟩;exact ⟨_, rfl, .inr (.inr ⟨g, rfl, h0, h1⟩), hb⟩
theorem qst (er : Value) (f k : Int) (W w : World) (hg : ErrT w) (h : qts W w er f k) :
 Calls Tryz.prog 19 #[er] w fun e w' => e = .returned (.tuple #[.int .i64 f, .int .i64 k]) ∧ Below w.heap.size w w' := by
 rcases h with ⟨rfl, rfl, rfl⟩ | ⟨_, rfl, rfl⟩ | ⟨g, rfl, h0, h1⟩
 ·exact qkb w
 ·exact qt3 f w hg
 ·exact qqw g 0 f k w hg h0 h1
end Go.Proofs.YtikdblkfjchjbaaGreatDoor
