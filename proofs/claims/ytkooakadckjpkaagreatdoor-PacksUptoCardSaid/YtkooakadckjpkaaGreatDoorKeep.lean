/-
  Rows of one's own in memory: their form, what leaves them; what a change of memory leaves, by the type of a block.
-/
import Derived.Test.YtkooakadckjpkaaGreatDoorBase
import Derived.OwnWalk
namespace Go.Proofs.YtkooakadckjpkaaGreatDoor
open Go.RowKit

theorem ownsRow_form {w : World} {base : Nat} {e : TypeId} {size : Nat} {v : Value} {n : Nat} {xs : List Value} (h : w.ownsRow base e size v n xs) : ∃ ao c, v = .slice ao n c := by
  rcases h.2 with ⟨h1, h2⟩ | ⟨g, cap, cur, hv, _⟩
  · subst h2; exact ⟨none, 0, h1⟩
  · exact ⟨_, _, hv⟩
theorem own_ne {w : World} {base : Nat} {e : TypeId} {size : Nat} {v : Value} {n : Nat} {xs : List Value} (h : w.ownsRow base e size v n xs) {g : Nat} (hg : g < base) : some g ≠ v.ownBlock := by
  rcases h.2 with ⟨rfl, _⟩ | ⟨g', cap, cur, rfl, hb, _⟩
  · simp [Value.ownBlock]
  · simp only [Value.ownBlock, ne_eq, Option.some.injEq]; omega
theorem own_le {w : World} {base : Nat} {e : TypeId} {size : Nat} {v : Value} {n : Nat} {xs : List Value} (h : w.ownsRow base e size v n xs) : ∀ k, v.ownBlock = some k → base ≤ k := by
  rcases h.2 with ⟨rfl, _⟩ | ⟨g', cap, cur, rfl, hb, _⟩
  · simp [Value.ownBlock]
  · intro k hk; simp only [Value.ownBlock, Option.some.injEq] at hk; omega
theorem ownsRow_below {w w' : World} {base : Nat} {e : TypeId} {size : Nat} {v : Value} {n : Nat} {xs : List Value} (h : w.ownsRow base e size v n xs) (hb : Below w.heap.size w w') : w'.ownsRow base e size v n xs := by
  obtain ⟨h1, h2⟩ := h
  refine ⟨h1, ?_⟩
  rcases h2 with h2 | ⟨g, cap, cur, hv, hg, hh, r⟩
  · exact .inl h2
  · exact .inr ⟨g, cap, cur, hv, hg, (hb.block g (Array.getElem?_eq_some_iff.1 hh).1).trans hh, r⟩
theorem ownsRow_base {w : World} {base base' : Nat} {e : TypeId} {size : Nat} {v : Value} {n : Nat} {xs : List Value} (h : w.ownsRow base e size v n xs) (hb : base' ≤ base) : w.ownsRow base' e size v n xs := by
  obtain ⟨h1, h2⟩ := h
  refine ⟨h1, ?_⟩
  rcases h2 with h2 | ⟨g, cap, cur, hv, hg, r⟩
  · exact .inl h2
  · exact .inr ⟨g, cap, cur, hv, Nat.le_trans hb hg, r⟩
/-- the blocks of a type stay -/
def KeepT (T : TypeId) (w w' : World) : Prop := ∀ (g : Nat) (cur : Array Value), w.heap[g]? = some (Obj.cells cur T (0, 0)) → w'.heap[g]? = some (Obj.cells cur T (0, 0))
theorem KeepT.refl (T : TypeId) (w : World) : KeepT T w w := fun _ _ h => h
theorem KeepT.trans {T : TypeId} {a b c : World} (h : KeepT T a b) (k : KeepT T b c) : KeepT T a c := fun g cur e => k g cur (h g cur e)
theorem KeepT.below {T : TypeId} {w w' : World} (h : Below w.heap.size w w') : KeepT T w w' := fun g cur e => (h.block g (Array.getElem?_eq_some_iff.1 e).1).trans e
theorem KeepT.drew {T : TypeId} {w w' : World} (h : KeepT T w w') : KeepT T w w'.drew := h
theorem KeepT.grown {T e : TypeId} {w w' : World} {base size n : Nat} {v : Value} {xs : List Value} (hg : w.grownBy w' v.ownBlock) (ho : w.ownsRow base e size v n xs) (hne : e ≠ T) : KeepT T w w' := by
  intro g cur h
  refine (hg.block g (Array.getElem?_eq_some_iff.1 h).1 ?_).trans h
  rcases ho.2 with ⟨rfl, _⟩ | ⟨g', cap, cur', rfl, hb, hh, _⟩
  · simp [Value.ownBlock]
  · intro heq
    simp only [Value.ownBlock, Option.some.injEq] at heq
    subst heq
    rw [h] at hh
    simp only [Option.some.injEq, Obj.cells.injEq] at hh
    exact hne hh.2.1.symm
theorem KeepT.setCell {T e : TypeId} {w : World} {g : Nat} {c : Array Value} {fz : Nat × Nat} (hb : w.heap[g]? = some (.cells c e fz)) (hne : e ≠ T) (o : Nat) (u : Value) : KeepT T w (w.setCell ⟨g, o, none⟩ u) := by
  intro g' cur h
  have : g' ≠ g := by
    rintro rfl
    rw [h] at hb
    simp only [Option.some.injEq, Obj.cells.injEq] at hb
    exact hne hb.2.1.symm
  rw [heap_setCell_other w ⟨g, o, none⟩ g' u this]; exact h
theorem ownsRow_keep {T : TypeId} {w w' : World} {base size n : Nat} {v : Value} {xs : List Value} (h : w.ownsRow base T size v n xs) (hk : KeepT T w w') : w'.ownsRow base T size v n xs := by
  obtain ⟨h1, h2⟩ := h
  refine ⟨h1, ?_⟩
  rcases h2 with h2 | ⟨g, cap, cur, hv, hg, hh, r⟩
  · exact .inl h2
  · exact .inr ⟨g, cap, cur, hv, hg, hk g cur hh, r⟩
end Go.Proofs.YtkooakadckjpkaaGreatDoor
