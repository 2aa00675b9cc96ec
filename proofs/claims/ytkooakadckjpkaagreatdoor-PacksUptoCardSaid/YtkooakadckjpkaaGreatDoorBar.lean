/-
  Plain words: the first change that may not stand where it stands. No program in sight.
-/
import Derived.Test.YtkooakadckjpkaaGreatDoorPath2
namespace Go.Proofs.YtkooakadckjpkaaGreatDoor

/-- may a change be, by itself -/
def markB (c : Ent) : Bool := (decide (c.kind = 4) || decide (c.kind = 5)) && decide (c.mode = 0) && c.data.isEmpty
def shapeR (i : Nat) (c : Ent) : Bool := !(decide (i = 80) || !pathB c.path || (!goodB c && !markB c) || (c.path.isEmpty && !decide (c.kind = 5)))
/-- is there one ahead of it that shuts it out -/
def shutR (pre : List Ent) (c : Ent) : Bool := pre.any fun x => belowB c.path x.path && !decide (x.kind = 1) && !decide (x.kind = 5)
def nextR (x c : Ent) : Bool := !(decide (0 ≤ orderL (partsB x.path) (partsB c.path)) && !(decide (orderL (partsB x.path) (partsB c.path) = 0) && decide (x.kind = 1) && decide (c.kind = 5)))
/-- the change at i, behind those ahead of it -/
def barR (l : List Ent) (i : Nat) : Bool := match l[i]? with
  | none => false
  | some c => !shapeR i c || (match l[i - 1]? with | some x => decide (0 < i) && !nextR x c | none => false) || shutR (l.take i) c
theorem barR_shape {l : List Ent} {k : Nat} {c : Ent} (h : l[k]? = some c) (hs : shapeR k c = false) : barR l k = true := by
  rw [barR, h]; show (!shapeR k c || _ || _) = true; rw [hs]; rfl
theorem barR_next {l : List Ent} {k : Nat} {c x : Ent} (h : l[k]? = some c) (h0 : 0 < k) (hx : l[k - 1]? = some x) (hn : nextR x c = false) : barR l k = true := by
  have e : barR l k = (!shapeR k c || (match l[k - 1]? with | some x => decide (0 < k) && !nextR x c | none => false) || shutR (l.take k) c) := by rw [barR, h]
  rw [e, hx]
  show (!shapeR k c || (decide (0 < k) && !nextR x c) || _) = true
  rw [hn, decide_eq_true h0]; simp
theorem barR_shut {l : List Ent} {k : Nat} {c : Ent} (h : l[k]? = some c) (hs : shutR (l.take k) c = true) : barR l k = true := by
  have e : barR l k = (!shapeR k c || (match l[k - 1]? with | some x => decide (0 < k) && !nextR x c | none => false) || shutR (l.take k) c) := by rw [barR, h]
  rw [e, hs, Bool.or_true]
theorem barR_ok {l : List Ent} {k : Nat} {c : Ent} (h : l[k]? = some c) (hs : shapeR k c = true) (hx : k = 0 ∨ ∃ x, l[k - 1]? = some x ∧ nextR x c = true) (hh : shutR (l.take k) c = false) : barR l k = false := by
  have e : barR l k = (!shapeR k c || (match l[k - 1]? with | some x => decide (0 < k) && !nextR x c | none => false) || shutR (l.take k) c) := by rw [barR, h]
  rw [e, hs, hh]
  rcases hx with h0 | ⟨x, hx, hn⟩
  · subst h0; cases l[0 - 1]? <;> simp
  · rw [hx]
    show (!true || (decide (0 < k) && !nextR x c) || false) = false
    rw [hn]; simp
theorem shutR_at {pre : List Ent} {c x : Ent} {q : Nat} (h : pre[q]? = some x) (h1 : belowB c.path x.path = true) (h2 : x.kind ≠ 1) (h3 : x.kind ≠ 5) : shutR pre c = true := by
  unfold shutR
  rw [List.any_eq_true]
  exact ⟨x, List.mem_of_getElem? h, by simp [h1, h2, h3]⟩
theorem shutR_none {pre : List Ent} {c : Ent} (h : ∀ (q : Nat) (x : Ent), pre[q]? = some x → belowB c.path x.path = false ∨ x.kind = 1 ∨ x.kind = 5) : shutR pre c = false := by
  unfold shutR
  rw [List.any_eq_false]
  intro x hx
  obtain ⟨q, hq⟩ := List.getElem?_of_mem hx
  rcases h q x hq with h | h | h <;> simp [h]
/-- r is the first of n places at which f says yes; -1: none -/
def First (f : Nat → Bool) (n : Nat) (r : Int) : Prop := (∃ i : Nat, i < n ∧ r = i ∧ f i = true ∧ ∀ j, j < i → f j = false) ∨ (r = -1 ∧ ∀ j, j < n → f j = false)
theorem First.uniq {f g : Nat → Bool} {n : Nat} {r s : Int} (h : First f n r) (k : First g n s) (e : ∀ i, i < n → (∀ j, j < i → f j = false) → (∀ j, j < i → g j = false) → f i = g i) : r = s := by
  have key : ∀ i, i ≤ n → (∀ j, j < i → f j = false) → ∀ j, j < i → g j = false := by
    intro i hi hf
    intro j hj
    induction j using Nat.strongRecOn with
    | ind j ih => rw [← e j (by omega) (fun q hq => hf q (by omega)) (fun q hq => ih q hq (by omega))]; exact hf j hj
  have key2 : ∀ i, i ≤ n → (∀ j, j < i → g j = false) → ∀ j, j < i → f j = false := by
    intro i hi hg
    intro j hj
    induction j using Nat.strongRecOn with
    | ind j ih => rw [e j (by omega) (fun q hq => ih q hq (by omega)) (fun q hq => hg q (by omega))]; exact hg j hj
  rcases h with ⟨i, hi, rfl, h1, h2⟩ | ⟨rfl, h2⟩
  · rcases k with ⟨m, hm, rfl, k1, k2⟩ | ⟨rfl, k2⟩
    · rcases Nat.lt_trichotomy i m with h | h | h
      · have := key2 m (by omega) k2 i h; rw [h1] at this; cases this
      · rw [h]
      · have := key i (by omega) h2 m h; rw [k1] at this; cases this
    · have := key2 n (Nat.le_refl _) k2 i hi; rw [h1] at this; cases this
  · rcases k with ⟨m, hm, rfl, k1, k2⟩ | ⟨rfl, k2⟩
    · have := key n (Nat.le_refl _) h2 m hm; rw [k1] at this; cases this
    · rfl
open Go.RowKit

/-- the k-th of a row of entries, in whatever world comes later -/
theorem ents_at {w wr : World} {A : Option Addr} {l : List Ent} (hr : Rd w A (ents l)) (hbel : Below w.heap.size w wr) (k : Nat) (hlt : k < l.length) :
    ∃ b o, A = some ⟨b, o, none⟩ ∧ b < w.heap.size ∧ wr.cell? ⟨b, o + k * 4, none⟩ = some (.string (S l[k].path)) ∧ wr.cell? ⟨b, o + k * 4 + 1, none⟩ = some (.int .i64 l[k].kind) ∧
      wr.cell? ⟨b, o + k * 4 + 2, none⟩ = some (.int .i64 l[k].mode) ∧ wr.cell? ⟨b, o + k * 4 + 3, none⟩ = some (.string (S l[k].data)) := by
  obtain ⟨b, o, rfl, hbb, hc⟩ := hr.at (k * 4) (by rw [ents_len]; omega)
  obtain ⟨c0, c1, c2, c3⟩ := ents_get l k hlt
  exact ⟨b, o, rfl, hbb, (hbel.cell (p := ⟨b, o + k * 4, none⟩) hbb).trans (hc _ _ c0), (hbel.cell (p := ⟨b, o + (k * 4 + 1), none⟩) hbb).trans (hc _ _ c1),
    (hbel.cell (p := ⟨b, o + (k * 4 + 2), none⟩) hbb).trans (hc _ _ c2), (hbel.cell (p := ⟨b, o + (k * 4 + 3), none⟩) hbb).trans (hc _ _ c3)⟩

/-- a variable of a struct's four cells -/
def Cell4 (W : World) (g : Nat) (c : Ent) : Prop :=
  W.cell? ⟨g, 0, none⟩ = some (.string (S c.path)) ∧ W.cell? ⟨g, 1, none⟩ = some (.int .i64 c.kind) ∧ W.cell? ⟨g, 2, none⟩ = some (.int .i64 c.mode) ∧ W.cell? ⟨g, 3, none⟩ = some (.string (S c.data))
theorem Cell4.below {W W' : World} {g : Nat} {c : Ent} (h : Cell4 W g c) (hb : Below W.heap.size W W') : Cell4 W' g c := by
  obtain ⟨h0, h1, h2, h3⟩ := h
  have hg : g < W.heap.size := World.block_lt_of_cell? W _ h0
  exact ⟨(hb.cell (p := ⟨g, 0, none⟩) hg).trans h0, (hb.cell (p := ⟨g, 1, none⟩) hg).trans h1, (hb.cell (p := ⟨g, 2, none⟩) hg).trans h2, (hb.cell (p := ⟨g, 3, none⟩) hg).trans h3⟩
theorem Cell4.new (w : World) (c : Ent) (t : TypeId) : Cell4 (w.alloc (.cells #[.string (S c.path), .int .i64 c.kind, .int .i64 c.mode, .string (S c.data)] t)) w.heap.size c := by
  refine ⟨?_, ?_, ?_, ?_⟩ <;> rw [World.cell?_alloc_at _ _ _ _ (by simp)] <;> rfl
end Go.Proofs.YtkooakadckjpkaaGreatDoor
