/-
  A range over a function whose body writes what it has made itself, maps too: the blocks of the iterator are told by a set of numbers (X); the iterator leaves what lay, and what it makes is its own; a round leaves the iterator's blocks. No round leaves the loop.
-/
import Derived.RangeFuncNested
set_option linter.unusedVariables false
set_option linter.unusedSimpArgs false
namespace Go.Proofs.YtpkabccinhfmbaaGreatDoor
open Go Go.RowKit

variable {F : Fence} {n : Nat} {P : Program}

/-- the iterator's blocks, when it has made more -/
def freshX (X : Nat → Prop) (W W' : World) : Nat → Prop := fun k => X k ∨ (W.heap.size ≤ k ∧ k < W'.heap.size)
/-- what a round leaves -/
structure StaysX (X : Nat → Prop) (W W' : World) : Prop where
  size : W.heap.size ≤ W'.heap.size
  same : ∀ k, X k → W'.heap[k]? = W.heap[k]?
theorem StaysX.refl (X : Nat → Prop) (W : World) : StaysX X W W := ⟨Nat.le_refl _, fun _ _ => rfl⟩
theorem StaysX.trans {X : Nat → Prop} {A B C : World} (h : StaysX X A B) (k : StaysX X B C) : StaysX X A C := ⟨Nat.le_trans h.size k.size, fun i hi => (k.same i hi).trans (h.same i hi)⟩
/-- AN ITERATOR's CONTRACT: it gives xs, one by one, and reads of what lay ahead of it the blocks X0 alone. -/
def SeqRel {α : Type} (F : Fence) (n : Nat) (P : Program) (g : Nat) (lb : Array Value) (encs : α → Array Value) (xs : List α) (X0 : Nat → Prop) (W0 : World) : Prop :=
  ∀ (l : Nat) (J : List α → (Nat → Prop) → World → Prop) (X : Nat → Prop) (W : World),
    (∀ pre X W W', J pre X W → Below W.heap.size W W' → J pre (freshX X W W') W') →
    (∀ pre x rest X W, xs = pre ++ x :: rest → J pre X W → YieldAt F (n - 1) P l (encs x) W fun e W' => e = .returned (.bool true) ∧ J (pre ++ [x]) X W' ∧ StaysX X W W') →
    (∀ pre X W, J pre X W → ∀ k, X k → k < W.heap.size) →
    (∀ k, X0 k → X k) → (∀ k, X0 k → W.heap[k]? = W0.heap[k]?) → J [] X W →
    CallsIn F n P g (#[.func (.yield l) #[] #[]] ++ lb) W fun e W' => (∃ v, e = .returned v) ∧ ∃ X', J xs X' W'

/-- how the body of a round may be left: it goes on -/
def relPost {α : Type} (I : List α → (Nat → Prop) → World → Prop) (xs : List α) (X : Nat → Prop) (W : World) : Exit → Act → World → Prop
  | .normal, _, W' => StaysX X W W' ∧ I xs X W'
  | _, _, _ => False

theorem wpIn_rangeFunc_rel {α : Type} {g : Operand} {ps : Array Tmp} {assign body : Code} {Q : Exit → Act → World → Prop} {a : Act} {w : World}
    (hro : F.round = none) (h1 : 1 ≤ n) {gf : Nat} {lb : Array Value} (hg : a.eval g = .func (.func gf) #[] lb) (hFg : F.fn gf) (eg : ∀ args w, (callFunc gf args).run P w = .ok (.enter gf args) w)
    {encs : α → Array Value} {xs : List α} {X0 : Nat → Prop} (hseq : SeqRel F (n - 1) P gf lb encs xs X0 w) (hps : ∀ x, (encs x).size = ps.size)
    (I : List α → (Nat → Prop) → World → Prop) (hX : ∀ pre X W, I pre X W → ∀ k, X k → k < W.heap.size)
    (hrely : ∀ pre X W W', I pre X W → Below W.heap.size W W' → I pre (freshX X W W') W')
    (hput : ∀ pre X W k o', I pre X W → X k → w.heap.size ≤ k → I pre X (W.putObj k o')) (h0 : I [] X0 w)
    (Ax : α → Act → (Nat → Prop) → World → Prop) (hAx : ∀ x a' X W k o', Ax x a' X W → X k → w.heap.size ≤ k → Ax x a' X (W.putObj k o'))
    (hassign : ∀ (l : Nat) (pre : List α) (x : α) (X : Nat → Prop) (W : World) (K : Act → World → Prop), I pre X W → (∀ a' W', StaysX X W W' → I pre X W' → Ax x a' X W' → K a' W') →
      assign.wpIn (F.inRound l) (n - 1 - 1) P (Exit.then K (fun _ _ _ => False)) { tmps := (ps.zip (encs x)).foldl (fun t (p, v) => t.setIfInBounds p v) a.tmps, defers := [] } W)
    (hbody : ∀ (l : Nat) (pre : List α) (x : α) (rest : List α) (a' : Act) (X : Nat → Prop) (W : World), xs = pre ++ x :: rest → I pre X W → Ax x a' X W → body.wpIn (F.inRound l) (n - 1 - 1) P (relPost I (pre ++ [x]) X W) a' W)
    (hdone : ∀ (D : Nat) (X : Nat → Prop) (W : World), w.heap.size ≤ D → X D → I xs X W → W.heap[D]? = some (.deferred (some [])) → Q .normal { a with defers := { target := .collected D, args := #[] } :: a.defers } W) :
    (Code.rangeFunc g ps assign body).wpIn F n P Q a w := by
  refine wpIn_rangeFunc ?_
  intro fn hfn
  rw [hro]
  obtain ⟨rec, hrec⟩ : ∃ rec : LoopState → Option Code → Loop, rec = fun st pe => { state := st, pending := pe, fn, tmps := a.tmps, params := ps, assign, body, defers := w.heap.size } := ⟨_, rfl⟩
  obtain ⟨W1, hW1⟩ : ∃ W1, (w.alloc (.deferred (some []))).alloc (.loop (rec .ready none)) = W1 := ⟨_, rfl⟩
  have hL1 : W1.heap[w.heap.size + 1]? = some (.loop (rec .ready none)) := by
    rw [← hW1]; have := World.alloc_heap_new (w.alloc (.deferred (some []))) (.loop (rec .ready none)); rwa [World.size_alloc] at this
  have hK1 : W1.heap[w.heap.size]? = some (.deferred (some [])) := by
    rw [← hW1]; exact (Below.heap_alloc _ _ _ (by simp)).trans (World.alloc_heap_new w _)
  have hsz : W1.heap.size = w.heap.size + 2 := by rw [← hW1]; simp
  have hb1 : Below w.heap.size w W1 := by rw [← hW1]; exact ((Below.refl _ w).alloc (Nat.le_refl _) _).alloc (by simp) _
  have hI1 : I [] (freshX X0 w W1) W1 := hrely _ _ _ _ h0 hb1
  refine ⟨w.heap.size + 1, [{ target := .collected w.heap.size, args := #[] }], W1, { target := .fn (.func gf) lb, args := #[.func (.yield (w.heap.size + 1)) #[] #[]] }, W1, gf,
    #[.func (.yield (w.heap.size + 1)) #[] #[]] ++ lb, W1, ?_, ?_, ?_, ?_, fun _ => h1, ?_⟩
  · rw [← hW1, hrec]; exact run_enterLoop_outer _ _ _ _ _
  · simp only [resolve, hg]
    simp [go_sem]
  · intro f' hf'; simp [Target.leads] at hf'; subst hf'; exact hFg
  · simp [invoke, go_sem, eg]
  · -- the iterator's contract at the caller's word and the two blocks of book-keeping
    refine (hseq (w.heap.size + 1)
      (fun pre X W => ∃ Y : Nat → Prop, I pre Y W ∧ (∀ k, Y k ↔ X k ∨ k = w.heap.size ∨ k = w.heap.size + 1) ∧ (¬ X w.heap.size ∧ ¬ X (w.heap.size + 1)) ∧ W.heap[w.heap.size + 1]? = some (.loop (rec .ready none)) ∧ W.heap[w.heap.size]? = some (.deferred (some [])))
      X0 W1 ?_ ?_ ?_ (fun _ h => h) (fun k hk => hb1.block k ?_) ?_).mono ?_
    · rintro pre X W W' ⟨Y, hi, hY, hn, hl, hk⟩ hb
      have h2 : w.heap.size + 1 < W.heap.size := (Array.getElem?_eq_some_iff.1 hl).1
      refine ⟨_, hrely _ _ _ _ hi hb, fun k => ?_, ⟨?_, ?_⟩, (hb.block _ h2).trans hl, (hb.block _ (by omega)).trans hk⟩
      · unfold freshX; rw [hY k]
        constructor
        · rintro ((h | h) | h)
          · exact .inl (.inl h)
          · exact .inr h
          · exact .inl (.inr h)
        · rintro ((h | h) | h)
          · exact .inl (.inl h)
          · exact .inr h
          · exact .inl (.inr h)
      · rintro (h | h)
        · exact hn.1 h
        · omega
      · rintro (h | h)
        · exact hn.2 h
        · omega
    · -- one round
      rintro pre x rest X W hxs ⟨Y, hi, hY, hn, hl, hk⟩
      have hlt : w.heap.size + 1 < W.heap.size := (Array.getElem?_eq_some_iff.1 hl).1
      have hYl : Y (w.heap.size + 1) := (hY _).2 (.inr (.inr rfl))
      have hYD : Y w.heap.size := (hY _).2 (.inr (.inl rfl))
      have hy := run_yield (P := P) (args := encs x) hl (by rw [hrec]; exact hps x)
      rw [hrec] at hy
      refine ⟨fn, _, assign, body, hy, roundIn_of_wpIn hfn (hassign _ pre x Y W _ hi (fun a' W2 hl2 hi2 ha2 => ⟨_, run_beginRound ((hl2.same _ hYl).trans hl) (by rw [hrec]), ?_⟩))⟩
      have hlt2 : w.heap.size + 1 < W2.heap.size := Nat.lt_of_lt_of_le hlt hl2.size
      obtain ⟨Wb, hWb⟩ : ∃ Wb, W2.putObj (w.heap.size + 1) (.loop { rec .ready none with state := .busy }) = Wb := ⟨_, rfl⟩
      have hlb : Wb.heap[w.heap.size + 1]? = some (.loop { rec .ready none with state := .busy }) := by rw [← hWb]; exact World.putObj_heap_same hlt2
      have hkb : Wb.heap[w.heap.size]? = some (.deferred (some [])) := by rw [← hWb]; exact (World.putObj_heap_other (by omega)).trans ((hl2.same _ hYD).trans hk)
      rw [hWb]
      refine wpIn_mono (hbody _ pre x rest a' Y Wb hxs (by rw [← hWb]; exact hput _ _ _ _ _ hi2 hYl (by omega)) (by rw [← hWb]; exact hAx _ _ _ _ _ _ ha2 hYl (by omega))) ?_
      rintro e a3 W3 hp
      cases e with
      | normal =>
        obtain ⟨hv3, hi3⟩ := hp
        have hl3 : W3.heap[w.heap.size + 1]? = some (.loop { rec .ready none with state := .busy }) := (hv3.same _ hYl).trans hlb
        have hr := run_endRound (P := P) none hl3
        rw [hrec] at hr hl3
        have hlt3 := (Array.getElem?_eq_some_iff.1 hl3).1
        refine ⟨_, _, hr, rfl, ⟨Y, hput _ _ _ _ _ hi3 hYl (by omega), hY, hn, ?_, ?_⟩, ?_, ?_⟩
        · rw [hrec]; exact World.putObj_heap_same hlt3
        · exact (World.putObj_heap_other (by omega)).trans ((hv3.same _ hYD).trans hkb)
        · have e1 : W2.heap.size = Wb.heap.size := by rw [← hWb]; simp
          have := hv3.size
          have := hl2.size
          simp; omega
        · intro k hkX
          have hkY : Y k := (hY k).2 (.inl hkX)
          have hne : k ≠ w.heap.size + 1 := fun e => hn.2 (e ▸ hkX)
          rw [World.putObj_heap_other hne, hv3.same k hkY, ← hWb, World.putObj_heap_other hne, hl2.same k hkY]
      | ret => exact hp.elim
      | exit id => exact hp.elim
      | goto t => exact hp.elim
      | panic ch => exact hp.elim
      | outgrown => exact hp.elim
    · rintro pre X W ⟨Y, hi, hY, _⟩ k hk
      exact hX _ _ _ hi k ((hY k).2 (.inl hk))
    · exact hX _ _ _ h0 k hk
    · refine ⟨_, hI1, fun k => ?_, ⟨fun h => ?_, fun h => ?_⟩, hL1, hK1⟩
      · unfold freshX
        rw [hsz]
        constructor
        · rintro (h | h)
          · exact .inl h
          · exact .inr (by omega)
        · rintro (h | h)
          · exact .inl h
          · exact .inr (by omega)
      · have := hX _ _ _ h0 _ h; omega
      · have := hX _ _ _ h0 _ h; omega
    · -- behind the iterator
      rintro e W2 ⟨⟨v, rfl⟩, X', Y, hi, hY, hn, hl, hk⟩
      refine ⟨none, _, by have := run_endLoop (P := P) hl (by rw [hrec]; simp); rw [hrec] at this; exact this, hdone _ Y _ (Nat.le_refl _) ((hY _).2 (.inr (.inl rfl))) (hput _ _ _ _ _ hi ((hY _).2 (.inr (.inr rfl))) (by omega)) ((World.putObj_heap_other (by omega)).trans hk)⟩
end Go.Proofs.YtpkabccinhfmbaaGreatDoor
