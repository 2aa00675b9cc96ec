/-
  The program: an error with its place; the law's own words: two lists that are the same, the document's example.
  The program: an error with its place, as it is handed up and told; the first that is wrong.
-/
import Derived.BigRegion
import Derived.Deep.Cut
import Derived.Test.YtpkabccinhfmbaaGreatDoorY01
import Derived.Test.YtpkabccinhfmbaaGreatDoorY13
set_option linter.unusedVariables false
set_option linter.unusedSimpArgs false
namespace Go.Proofs.YtpkabccinhfmbaaGreatDoor
open Go.RowKit

theorem atP_any (n : Int) (k : Nat) (w : World) (hn : ¬ n = 0) :
    Calls Tryz.prog 22 #[.int .i64 n, .int .i64 k] w fun e w' => ∃ g, e = .returned (.iface 62 (.pointer (some ⟨g, 0, none⟩))) ∧ w'.cell? ⟨g, 0, none⟩ = some (.int .i64 n) ∧ w'.cell? ⟨g, 0 + 1, none⟩ = some (.int .i64 k) ∧ Below w.heap.size w w' := by
  have h1 : ¬ (k : Int) < 0 := by omega
  have f0 : (n == 0) = false := by simpa using hn
  go_enter Tryz.func22, Tryz.ntmps22
  go_wp2
  go_ret
  exact ⟨w.heap.size, rfl, by simp, by simp, (Below.refl _ _).alloc (Nat.le_refl _) _⟩
theorem atN_any (n : Int) (w : World) (hn : ¬ n = 0) :
    Calls Tryz.prog 22 #[.int .i64 n, .int .i64 (-1)] w fun e w' => e = .returned (.iface 26 (.int .i64 n)) ∧ Below w.heap.size w w' := by
  have f0 : (n == 0) = false := by simpa using hn
  go_enter Tryz.func22, Tryz.ntmps22
  go_wp2
  go_ret
  exact ⟨rfl, Below.refl _ _⟩
theorem below_drew {B : Nat} {a w : World} (h : Below B a w) : Below B a w.drew := ⟨h.os, h.tape, h.output, h.size, h.block⟩
theorem rd_alloc (w : World) (cs : List Value) (t : TypeId) : Rd (w.alloc (.cells cs.toArray t)) (some ⟨w.heap.size, 0, none⟩) cs := by
  refine .inr ⟨_, 0, rfl, fun i u hu => ?_⟩
  rw [cell_of_row _ _ _ _ _ _ (Go.heap_alloc_new w _)]
  simpa using hu
end Go.Proofs.YtpkabccinhfmbaaGreatDoor
namespace Go.Proofs.YtpkabccinhfmbaaGreatDoor
open Go.RowKit

theorem First.exists' (f : Nat → Bool) (n : Nat) : ∃ r, First f n r := by
  suffices h : ∀ m, m ≤ n → (∃ i : Nat, i < m ∧ f i = true ∧ ∀ j, j < i → f j = false) ∨ ∀ j, j < m → f j = false by
    rcases h n (Nat.le_refl _) with ⟨i, hi, h1, h2⟩ | h
    · exact ⟨i, .inl ⟨i, hi, rfl, h1, h2⟩⟩
    · exact ⟨-1, .inr ⟨rfl, h⟩⟩
  intro m
  induction m with
  | zero => intro _; exact .inr fun j hj => by omega
  | succ m ih =>
    intro hm
    rcases ih (by omega) with ⟨i, hi, h1, h2⟩ | h
    · exact .inl ⟨i, by omega, h1, h2⟩
    · cases hf : f m with
      | true => exact .inl ⟨m, by omega, hf, h⟩
      | false =>
        refine .inr fun j hj => ?_
        by_cases e : j = m
        · subst e; exact hf
        · exact h j (by omega)
theorem none_wrong {l : List Ent} (h : First (wrongP l) l.length (-1)) : l.length ≤ 40 ∧ Lists l (treeOf l) := by
  obtain h | ⟨_, h⟩ := h
  · obtain ⟨i, _, h1, _⟩ := h; omega
  refine ⟨Classical.byContradiction fun hn => ?_, ?_⟩
  · have h40 := h 40 (by omega)
    have hc : l[40]? = some l[40] := List.getElem?_eq_getElem (by omega)
    rw [wrongP_eq hc] at h40; simp at h40
  · have := lists_take (k := l.length) (Nat.le_refl _) h
    rwa [List.take_length] at this
/-- an error as it is handed up -/
def ErrOut (W w' : World) (er : Value) (f k : Int) : Prop :=
  (f = 0 ∧ k = -1 ∧ er = .nilIface) ∨ (f ≠ 0 ∧ k = -1 ∧ er = .iface 26 (.int .i64 f)) ∨
  (∃ g : Nat, er = .iface 62 (.pointer (some ⟨g, 0, none⟩)) ∧ w'.cell? ⟨g, 0, none⟩ = some (.int .i64 f) ∧ w'.cell? ⟨g, 0 + 1, none⟩ = some (.int .i64 k))
theorem at_out (f k : Int) (W w : World) (hf : f ≠ 0) (hk : k = -1 ∨ 0 ≤ k) :
    Calls Tryz.prog 22 #[.int .i64 f, .int .i64 k] w fun e w' => ∃ er, e = .returned er ∧ ErrOut W w' er f k ∧ Below w.heap.size w w' := by
  rcases hk with rfl | hk
  · refine (atN_any f w hf).mono ?_
    rintro e w' ⟨rfl, hb⟩
    exact ⟨_, rfl, .inr (.inl ⟨hf, rfl, rfl⟩), hb⟩
  · obtain ⟨n, rfl⟩ : ∃ n : Nat, k = n := ⟨k.toNat, by omega⟩
    refine (atP_any f n w hf).mono ?_
    rintro e w' ⟨g, rfl, h0, h1, hb⟩
    exact ⟨_, rfl, .inr (.inr ⟨g, rfl, h0, h1⟩), hb⟩
theorem tell_out (er : Value) (f k : Int) (W w : World) (hg : ErrT w) (h : ErrOut W w er f k) :
    Calls Tryz.prog 15 #[er] w fun e w' => e = .returned (.tuple #[.int .i64 f, .int .i64 k]) ∧ Below w.heap.size w w' := by
  rcases h with ⟨rfl, rfl, rfl⟩ | ⟨_, rfl, rfl⟩ | ⟨g, rfl, h0, h1⟩
  · exact tell_nil w
  · exact tell_errno f w hg
  · exact tell_at g 0 f k w hg h0 h1
end Go.Proofs.YtpkabccinhfmbaaGreatDoor
