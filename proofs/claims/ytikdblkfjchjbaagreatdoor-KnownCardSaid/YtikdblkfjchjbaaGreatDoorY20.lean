import Derived.Deep.RegionLaw
import Derived.Deep.AppendLies
import Derived.Test.YtikdblkfjchjbaaGreatDoorY19
set_option linter.unusedVariables false
set_option linter.unusedSimpArgs false
set_option maxHeartbeats 16000000
set_option maxRecDepth 100000
namespace Go.Proofs.YtikdblkfjchjbaaGreatDoor
open Go.RowKit
theorem qs3 {w : World} {base : Nat} {e : TypeId} {size : Nat} {v : Value} {n : Nat} {xs : List Value} (h : w.ownsRow base e size v n xs) : ∀ k, v.ownBlock = some k → k < w.heap.size := by
 rcases h.2 with ⟨rfl, _⟩ | ⟨g', cap, cur, rfl, hb, hh, _⟩
 ·simp [Value.ownBlock]
 ·intro k hk; simp only [Value.ownBlock, Option.some.injEq] at hk; subst hk; exact (q41 hh).1
theorem BlkT.alloc {w : World} {g : Nat} {t : TypeId} (h : BlkT w g t) (o : Obj) : BlkT (w.alloc o) g t := h.after ((Below.refl _ _).alloc (Nat.le_refl _) o)
theorem BlkT.far {w : World} {g g' o : Nat} {t : TypeId} (h : BlkT w g t) (u : Value) (hne : g ≠ g') : BlkT (w.setCell ⟨g', o, none⟩ u) g t := by
 obtain ⟨cs, h⟩ := h;exact ⟨cs, by rw [heap_setCell_other w _ g u hne]; exact h⟩
theorem KeepT.setT {T e : TypeId} {w : World} {g : Nat} (hb : BlkT w g e) (hne : e ≠ T) (o : Nat) (u : Value) : KeepT T w (w.setCell ⟨g, o, none⟩ u) := by
 obtain ⟨cs, h⟩ := hb;exact KeepT.setCell h hne o u
def Blk4 (w : World) (g : Nat) (a b c d : Value) : Prop := ∃ t, w.heap[g]? = some (Obj.cells #[a, b, c, d] t (0, 0))
theorem Blk4.new (w : World) (a b c d : Value) (t : TypeId) : Blk4 (w.alloc (.cells #[a, b, c, d] t)) w.heap.size a b c d := ⟨t, heap_alloc_new w _⟩
theorem Blk4.lt {w : World} {g : Nat} {a b c d : Value} (h : Blk4 w g a b c d) : g < w.heap.size := by
 obtain ⟨t, h⟩ := h;exact (q41 h).1
theorem Blk4.drew {w : World} {g : Nat} {a b c d : Value} (h : Blk4 w g a b c d) : Blk4 w.drew g a b c d := h
theorem Blk4.after {w w' : World} {g : Nat} {a b c d : Value} (h : Blk4 w g a b c d) (hb : Below w.heap.size w w') : Blk4 w' g a b c d := by
 have hl := h.lt;obtain ⟨t, h⟩ := h;exact ⟨t, (hb.block g hl).trans h⟩
theorem Blk4.facts {w : World} {g : Nat} {a b c d : Value} (h : Blk4 w g a b c d) : w.cell? ⟨g, 0, none⟩ = some a ∧ w.cell? ⟨g, 1, none⟩ = some b ∧ w.cell? ⟨g, 2, none⟩ = some c ∧ w.cell? ⟨g, 3, none⟩ = some d ∧ w.frozen? ⟨g, 0, none⟩ = false ∧ w.frozen? ⟨g, 1, none⟩ = false ∧ w.frozen? ⟨g, 2, none⟩ = false ∧ w.frozen? ⟨g, 3, none⟩ = false := by
 obtain ⟨t, h⟩ := h;refine ⟨?_, ?_, ?_, ?_, frozen_of_row w g 0 _ t h, frozen_of_row w g 1 _ t h, frozen_of_row w g 2 _ t h, frozen_of_row w g 3 _ t h⟩
 ·rw [cell_of_row w g 0 _ t (0, 0) h]; rfl
 ·rw [cell_of_row w g 1 _ t (0, 0) h]; rfl
 ·rw [cell_of_row w g 2 _ t (0, 0) h]; rfl
 ·rw [cell_of_row w g 3 _ t (0, 0) h]; rfl
theorem Blk4.set3 {w : World} {g : Nat} {a b c d : Value} (h : Blk4 w g a b c d) (u : Value) : Blk4 (w.setCell ⟨g, 3, none⟩ u) g a b c u := by
 obtain ⟨t, h⟩ := h;exact ⟨t, by rw [heap_setCell_same w g _ _ t u h]; rfl⟩
theorem Blk4.set2 {w : World} {g : Nat} {a b c d : Value} (h : Blk4 w g a b c d) (u : Value) : Blk4 (w.setCell ⟨g, 2, none⟩ u) g a b u d := by
 obtain ⟨t, h⟩ := h;exact ⟨t, by rw [heap_setCell_same w g _ _ t u h]; rfl⟩
theorem Blk4.set1 {w : World} {g : Nat} {a b c d : Value} (h : Blk4 w g a b c d) (u : Value) : Blk4 (w.setCell ⟨g, 1, none⟩ u) g a u c d := by
 obtain ⟨t, h⟩ := h;exact ⟨t, by rw [heap_setCell_same w g _ _ t u h]; rfl⟩
theorem qc4 (w : World) (a b c d : Value) (t : TypeId) (B : Nat) (hB : w.heap.size = B) : ∀ j u, [a, b, c, d][j]? = some u → (w.alloc (.cells #[a, b, c, d] t)).cell? ((⟨B, 0, none⟩ : Addr).add j) = some u := by
 subst hB;intro j u h;match j, h with
 | 0, h => simp at h; subst h; simp [Addr.add]
 | 1, h => simp at h; subst h; simp [Addr.add]
 | 2, h => simp at h; subst h; simp [Addr.add]
 | 3, h => simp at h; subst h; simp [Addr.add]
theorem qek (st : List StageG) (x : List UInt8) : qa2 st x = -1 ∨ ∃ k : Nat, k < st.length ∧ qa2 st x = k := by
 unfold qa2;cases h : st.findIdx? (fun y => y.name == x) with
 | none => exact .inl rfl
 | some k =>
  obtain ⟨hk, _⟩ := List.findIdx?_eq_some_iff_getElem.1 h;exact .inr ⟨k, hk, rfl⟩
theorem qkt {st : List StageG} {k : Nat} (h : k < st.length) : qhy st (k : Int) = st[k].vars := by simp [qhy, h]
theorem qjb {st : List StageG} {k : Int} (h : k < 0) : qhy st k = [] := by unfold qhy; rw [if_neg (by omega)]
theorem qdo {w : World} {base : Nat} {e : TypeId} {size n c g : Nat} {xs : List Value} (h : w.ownsRow base e size (.slice (some ⟨g, 0, none⟩) n c) n xs) (j : Nat) (u : Value) (hj : j < n * size) :
 (w.setCell ⟨g, j, none⟩ u).ownsRow base e size (.slice (some ⟨g, 0, none⟩) n c) n (xs.set j u) := by
 obtain ⟨h1, h2⟩ := h;refine ⟨by simpa using h1, ?_⟩;rcases h2 with ⟨e1, _⟩ | ⟨g', cap, cur, e1, hg, hh, hn, hm, r1, r2⟩
 ·simp at e1
 ·simp only [Value.slice.injEq, Option.some.injEq, Addr.mk.injEq] at e1
  obtain ⟨⟨rfl, -, -⟩, -, rfl⟩ := e1;refine .inr ⟨g, c, cur.setIfInBounds j u, rfl, hg, heap_setCell_same w g j cur e u hh, hn, hm, by simpa using r1, ?_⟩;rw [← r2];apply List.ext_getElem?;intro k;simp only [Array.toList_setIfInBounds, List.getElem?_take, List.getElem?_set];by_cases hk : k < n * size
  ·simp only [hk, if_true]
   by_cases hjk : j = k
   ·subst hjk
    have hle : n * size ≤ cur.size := by rw [r1]; exact Nat.mul_le_mul_right _ hn
    simp [hk, show j < cur.size by omega]
    omega
   ·simp [hjk]
  ·simp only [hk, if_false]
   by_cases hjk : j = k
   ·omega
   ·simp [hjk]
theorem qz1 (cs0 : List Value) (a b sv vv u : Value) (m : Nat) (h : cs0.length = m * 4) : (cs0 ++ [a, b, sv, vv]).set (m * 4 + 3) u = cs0 ++ [a, b, sv, u] := by
 rw [List.set_append_right _ _ (by omega), h]; simp
theorem qz2 (cs0 : List Value) (a b sv vv u : Value) (m : Nat) (h : cs0.length = m * 4) : (cs0 ++ [a, b, sv, vv]).set (m * 4 + 2) u = cs0 ++ [a, b, u, vv] := by
 rw [List.set_append_right _ _ (by omega), h]; simp
theorem qdk (init : List StageG) (y : StageG) (vs : List (List UInt8)) (x : StepG) : q2u (init ++ [y]) vs x = init ++ [⟨y.name, y.base, y.steps ++ [x], y.vars ++ vs⟩] := by
 simp [q2u]
theorem qej (init : List StageG) (y : StageG) : qn0 (init ++ [y]) = y.vars := by simp [qn0]
def StB (n : Nat) (st : List StageG) : Prop := ∀ x ∈ st, x.vars.length ≤ n ∧ x.steps.length ≤ n
theorem StB.mono {n m : Nat} {st : List StageG} (h : StB n st) (hm : n ≤ m) : StB m st := fun x hx => ⟨Nat.le_trans (h x hx).1 hm, Nat.le_trans (h x hx).2 hm⟩
theorem qv6 {op : List UInt8} {a b : Nat} (h : qbs op = some (a, b)) : 1 ≤ a ∧ b ≤ 3 ∧ (op = qge → a = 2) := by
 unfold qbs at h;split at h
 ·rename_i e; simp at h; obtain ⟨rfl, rfl⟩ := h; exact ⟨by omega, by omega, fun e2 => by rw [e] at e2; cases e2⟩
 ·split at h
  ·simp at h; obtain ⟨rfl, rfl⟩ := h; exact ⟨by omega, by omega, fun _ => rfl⟩
  ·rename_i hne
   split at h
   ·simp at h; obtain ⟨rfl, rfl⟩ := h; exact ⟨by omega, by omega, fun e => absurd e hne⟩
   ·split at h
    ·simp at h; obtain ⟨rfl, rfl⟩ := h; exact ⟨by omega, by omega, fun e => absurd e hne⟩
    ·split at h
     ·simp at h; obtain ⟨rfl, rfl⟩ := h; exact ⟨by omega, by omega, fun e => absurd e hne⟩
     ·split at h
      ·simp at h; obtain ⟨rfl, rfl⟩ := h; exact ⟨by omega, by omega, fun e => absurd e hne⟩
      ·split at h
       ·simp at h; obtain ⟨rfl, rfl⟩ := h; exact ⟨by omega, by omega, fun e => absurd e hne⟩
       ·split at h
        ·simp at h; obtain ⟨rfl, rfl⟩ := h; exact ⟨by omega, by omega, fun e => absurd e hne⟩
        ·cases h
theorem q0z {st st' : List StageG} {ws : List WordG} {n : Nat} (h : qmj st ws = .ok st') (hb : StB n st) (h5 : st.length ≤ 5) : StB n st' ∧ st' ≠ [] ∧ st'.length ≤ 5 := by
 unfold qmj at h;split at h
 ·cases h
 ·split at h
  ·cases h
  ·split at h
   ·cases h
   ·split at h
    ·cases h
    ·split at h
     ·cases h
     ·rename_i hne5
      cases h;refine ⟨?_, by simp, by simp; omega⟩;intro x hx;rcases List.mem_append.1 hx with hx | hx
      ·exact hb x hx
      ·simp only [List.mem_singleton] at hx
       subst hx;refine ⟨?_, by simp⟩;rcases qek st (nth ws 1).text with hk | ⟨k, hkl, hk⟩
       ·simp only [hk]; rw [qjb (by omega)]; simp
       ·simp only [hk]; rw [qkt hkl]; exact (hb _ (List.getElem_mem hkl)).1
theorem qzz {st st' : List StageG} {op : List UInt8} {ws : List WordG} {n : Nat} (h : qj7 st op ws = .ok st') (hb : StB n st) (h5 : st.length ≤ 5) (hne : st ≠ []) : StB (n + 1) st' ∧ st' ≠ [] ∧ st'.length ≤ 5 := by
 unfold qj7 at h;split at h
 ·cases h
 ·split at h
  ·cases h
  ·cases h
   obtain ⟨init, y, rfl⟩ : ∃ init y, st = init ++ [y] := ⟨st.dropLast, st.getLast hne, (List.dropLast_concat_getLast hne).symm⟩;rw [qdk];refine ⟨?_, by simp, by simpa using h5⟩;intro x hx;rcases List.mem_append.1 hx with hx | hx
   ·have := hb x (List.mem_append.2 (.inl hx)); omega
   ·simp only [List.mem_singleton] at hx
    subst hx;have := hb y (by simp);refine ⟨?_, by simp; omega⟩;split <;> simp <;> omega
theorem qy9 (c : UInt8) : qjr c = true ↔ (c.toNat : Int) = 10 ∨ (32 ≤ (c.toNat : Int) ∧ (c.toNat : Int) ≤ 126) := by
 simp only [qjr, Bool.or_eq_true, Bool.and_eq_true, decide_eq_true_eq, beq_iff_eq, UInt8.le_iff_toNat_le, ← UInt8.toNat_inj]; simp; omega
theorem quw {s : List UInt8} {k : Nat} (h : s.length ≤ 1500) (hk : s.findIdx? (fun c => !qjr c) = some k) : qbk s = .error (5, k) := by unfold qbk; rw [if_neg (by omega), hk]
theorem qrk {s : List UInt8} (h : s.length ≤ 1500) (hk : s.findIdx? (fun c => !qjr c) = none) : qbk s = qd8 s 0 [] 0 := by unfold qbk; rw [if_neg (by omega), hk]
def qjw (x : StageG) (k : Int) : Bool := x.steps.any (fun y => y.stage == k) || x.base == k
inductive Reach (st : List StageG) : Nat → Prop
 | last : st ≠ [] → Reach st (st.length - 1)
 | step {i k : Nat} (hi : i < st.length) : Reach st i → k < i → qjw st[i] k = true → Reach st k
open Classical in
noncomputable def qjj (st : List StageG) : List Nat := (List.range st.length).filter (fun i => decide (Reach st i))
structure Marks (st : List StageG) (b : List Bool) : Prop where
 len : b.length = st.length
 last : b[st.length - 1]? = some true
 sound : ∀ i : Nat, b[i]? = some true → Reach st i
theorem Marks.set {st : List StageG} {b : List Bool} (h : Marks st b) {i k : Nat} (hi : i < st.length) (hb : b[i]? = some true) (hk : k < i) (hw : qjw st[i] k = true) : Marks st (b.set k true) := by
 refine ⟨by simpa using h.len, ?_, ?_⟩
 ·rw [List.getElem?_set]
  have := h.last;have hl := h.len;split
  ·rename_i e; subst e
   simp; omega
  ·exact this
 ·intro j hj
  rw [List.getElem?_set] at hj;split at hj
  ·rename_i e; subst e
   exact .step hi (h.sound i hb) hk hw
  ·exact h.sound j hj
def qso (st : List StageG) (b : List Bool) : Prop := ∀ (i k : Nat) (hi : i < st.length), k < i → b[i]? = some true → qjw st[i] k = true → b[k]? = some true
theorem Marks.all {st : List StageG} {b : List Bool} (h : Marks st b) (hc : qso st b) (i : Nat) : b[i]? = some true ↔ Reach st i := by
 refine ⟨h.sound i, fun hr => ?_⟩;induction hr with
 | last hne => exact h.last
 | step hi _ hk hw ih => exact hc _ _ hi hk ih hw
def upto (b : List Bool) (k : Nat) : List Nat := (List.range k).filter (fun i => b[i]? == some true)
theorem qzq {st : List StageG} {b : List Bool} (h : Marks st b) (hc : qso st b) : upto b st.length = qjj st := by
 unfold upto qjj;apply List.filter_congr;intro i _;rw [Bool.eq_iff_iff];simpa using h.all hc i
def WfS (st : List StageG) : Prop := ∀ (i : Nat) (h : i < st.length), st[i].base < (i : Int) ∧ ∀ x ∈ st[i].steps, x.stage < (i : Int)
structure FileOk (st : List StageG) : Prop where
 wf : WfS st
 ne : st ≠ []
 h5 : st.length ≤ 5
 bd : StB 24 st
def ClosedFrom (st : List StageG) (b : List Bool) (k : Nat) : Prop := ∀ (i k' : Nat) (hi : i < st.length), k ≤ i → k' < i → b[i]? = some true → qjw st[i] k' = true → b[k']? = some true
theorem ClosedFrom.all {st : List StageG} {b : List Bool} (h : ClosedFrom st b 0) : qso st b := fun i k hi hk hb hw => h i k hi (Nat.zero_le _) hk hb hw
def qcp (b : List Bool) (n k : Nat) : List Nat := ((List.range n).filter (fun i => b[i]? == some true && decide (k ≤ i))).reverse
theorem qp4 (b : List Bool) (n : Nat) : qcp b n n = [] := by
 unfold qcp;rw [List.reverse_eq_nil_iff, List.filter_eq_nil_iff];intro i hi;have := List.mem_range.1 hi;simp; omega
theorem qvr (b : List Bool) (n : Nat) : qcp b n 0 = (upto b n).reverse := by
 unfold qcp upto;congr 1
 apply List.filter_congr;intro i _;simp
theorem qp0 (p : Nat → Bool) (n k : Nat) (h : k < n) : (List.range n).filter (fun i => p i && decide (k ≤ i)) = (if p k = true then [k] else []) ++ (List.range n).filter (fun i => p i && decide (k + 1 ≤ i)) := by
 induction n with
 | zero => omega
 | succ n ih =>
  rw [List.range_succ, List.filter_append, List.filter_append];rcases Nat.lt_or_ge k n with hk | hk
  ·rw [ih hk, List.append_assoc]
   congr 2
   simp [List.filter_cons, show k ≤ n by omega, show k + 1 ≤ n by omega]
  ·obtain rfl : k = n := by omega
   have e1 : (List.range k).filter (fun i => p i && decide (k ≤ i)) = [] := by
    rw [List.filter_eq_nil_iff]; intro i hi; have := List.mem_range.1 hi; simp; omega
   have e2 : (List.range k).filter (fun i => p i && decide (k + 1 ≤ i)) = [] := by
    rw [List.filter_eq_nil_iff]; intro i hi; have := List.mem_range.1 hi; simp; omega
   rw [e1, e2];simp [List.filter_cons]
theorem qnf (b : List Bool) (n k : Nat) (h : k < n) : qcp b n k = if b[k]? = some true then qcp b n (k + 1) ++ [k] else qcp b n (k + 1) := by
 unfold qcp;rw [qp0 (fun i => b[i]? == some true) n k h];by_cases hb : b[k]? = some true <;> simp [hb]
theorem qp5 (b : List Bool) (n k : Nat) : (qcp b n k).length ≤ n := by
 unfold qcp;rw [List.length_reverse];have := List.length_filter_le (fun i => b[i]? == some true && decide (k ≤ i)) (List.range n);simpa using this
theorem qvs {b b' : List Bool} {n k : Nat} (h : ∀ i, k ≤ i → b'[i]? = b[i]?) : qcp b' n k = qcp b n k := by
 unfold qcp;congr 1
 apply List.filter_congr;intro i _;by_cases hi : k ≤ i
 ·rw [h i hi]
 ·simp [hi]
structure Mid (st : List StageG) (b0 b : List Bool) (i j : Nat) (hi : i < st.length) : Prop where
 above : ∀ k, i ≤ k → b[k]? = b0[k]?
 more : ∀ k : Nat, b0[k]? = some true → b[k]? = some true
 base : ∀ k : Nat, st[i].base = k → b[k]? = some true
 steps : ∀ (q k : Nat) (hq : q < st[i].steps.length), q < j → st[i].steps[q].stage = k → b[k]? = some true
theorem Mid.set {st : List StageG} {b0 b : List Bool} {i j : Nat} {hi : i < st.length} (h : Mid st b0 b i j hi) (k : Nat) (hk : k < i) (hl : b.length = st.length) (hj : ∀ (hq : j < st[i].steps.length), st[i].steps[j].stage = (k : Int)) : Mid st b0 (b.set k true) i (j + 1) hi := by
 have on : ∀ m : Nat, b[m]? = some true → (b.set k true)[m]? = some true := fun m e => by
  rw [List.getElem?_set]; split
  ·simp; omega
  ·exact e
 refine ⟨fun m hm => ?_, fun m e => on m (h.more m e), fun m e => on m (h.base m e), fun q m hq hlt e => ?_⟩
 ·rw [List.getElem?_set_ne (by omega)]; exact h.above m hm
 ·rcases Nat.lt_or_ge q j with h' | h'
  ·exact on m (h.steps q m hq h' e)
  ·obtain rfl : q = j := by omega
   have := hj hq;have e2 : k = m := by omega
   subst e2;exact List.getElem?_set_self (by omega)
theorem Mid.skip {st : List StageG} {b0 b : List Bool} {i j : Nat} {hi : i < st.length} (h : Mid st b0 b i j hi) (hj : ∀ (hq : j < st[i].steps.length), st[i].steps[j].stage < 0) : Mid st b0 b i (j + 1) hi := by
 refine ⟨h.above, h.more, h.base, fun q m hq hlt e => ?_⟩;rcases Nat.lt_or_ge q j with h' | h'
 ·exact h.steps q m hq h' e
 ·obtain rfl : q = j := by omega
  have := hj hq;omega
theorem Mid.start {st : List StageG} {b0 : List Bool} {i : Nat} (hi : i < st.length) (hb : st[i].base < 0) : Mid st b0 b0 i 0 hi :=
 ⟨fun _ _ => rfl, fun _ e => e, fun k e => by omega, fun q k _ h => by omega⟩
theorem Mid.start1 {st : List StageG} {b0 : List Bool} {i : Nat} (hi : i < st.length) (k : Nat) (hk : k < i) (hl : b0.length = st.length) (hb : st[i].base = (k : Int)) : Mid st b0 (b0.set k true) i 0 hi := by
 refine ⟨fun m hm => List.getElem?_set_ne (by omega), fun m e => ?_, fun m e => ?_, fun q k _ h => by omega⟩
 ·rw [List.getElem?_set]; split
  ·simp; omega
  ·exact e
 ·have e2 : k = m := by omega
  subst e2;exact List.getElem?_set_self (by omega)
theorem Mid.closed {st : List StageG} {b0 b : List Bool} {i : Nat} {hi : i < st.length} (h : Mid st b0 b i st[i].steps.length hi) (hc : ClosedFrom st b0 (i + 1)) : ClosedFrom st b i := by
 intro i' k' hi' hle hlt hb hw;rcases Nat.lt_or_ge i i' with h' | h'
 ·rw [h.above i' (by omega)] at hb
  exact h.more k' (hc i' k' hi' h' hlt hb hw)
 ·obtain rfl : i' = i := by omega
  unfold qjw at hw;rw [Bool.or_eq_true, List.any_eq_true] at hw;rcases hw with ⟨y, hy, e⟩ | e
  ·obtain ⟨q, hq, rfl⟩ := List.getElem_of_mem hy
   exact h.steps q k' hq hq (by simpa using e)
  ·exact h.base k' (by simpa using e)
theorem ClosedFrom.pass {st : List StageG} {b : List Bool} {i : Nat} (h : ClosedFrom st b (i + 1)) (hb : b[i]? ≠ some true) : ClosedFrom st b i := by
 intro i' k' hi' hle hlt hb' hw;rcases Nat.lt_or_ge i i' with h' | h'
 ·exact h i' k' hi' h' hlt hb' hw
 ·obtain rfl : i' = i := by omega
  exact absurd hb' hb
theorem ClosedFrom.top (st : List StageG) (b : List Bool) : ClosedFrom st b st.length := fun i _ hi hle => by omega
theorem qyv {st : List StageG} {b : List Bool} (h : Marks st b) (hc : ClosedFrom st b 0) : (qcp b st.length 0).reverse = qjj st := by
 rw [qvr, List.reverse_reverse, qzq h hc.all]
def qtp (y : StepG) : Prop := y.words.length ≤ 3 ∧ GoodW y.words ∧ qbs y.op ≠ none
def qmb (x : StageG) : Prop := x.name.length ≤ 10 ∧ ∀ y ∈ x.steps, qtp y
def FileT (st : List StageG) : Prop := ∀ x ∈ st, qmb x
def qin (c : UInt8) : Bool := qik c || qg2 c || qnh c || c == 46 || c == 47 || c == 95 || c == 61 || c == 58 || c == 45
theorem qmz (c : UInt8) : qin c = true ↔ (97 ≤ (c.toNat : Int) ∧ (c.toNat : Int) ≤ 122) ∨ (65 ≤ (c.toNat : Int) ∧ (c.toNat : Int) ≤ 90) ∨ (48 ≤ (c.toNat : Int) ∧ (c.toNat : Int) ≤ 57) ∨ (c.toNat : Int) = 46 ∨ (c.toNat : Int) = 47 ∨ (c.toNat : Int) = 95 ∨ (c.toNat : Int) = 61 ∨ (c.toNat : Int) = 58 ∨ (c.toNat : Int) = 45 := by
 simp only [qin, Bool.or_eq_true, qjd, qli, qng, beq_iff_eq, ← UInt8.toNat_inj];simp
 omega
def qh0 (c : UInt8) : List UInt8 := if qin c then [c] else [92, c]
theorem qhh (c : UInt8) : 0 < (qh0 c).length ∧ (qh0 c).length ≤ 2 := by unfold qh0; split <;> simp
def qb0 (s : List UInt8) : List UInt8 := s.flatMap qh0
def qmn : Atm → List UInt8
 | .ch c => qh0 c
 | .var x _ => [36, 123] ++ x ++ [125]
def qls (l : List Atm) : List UInt8 := l.flatMap qmn
def qet (s : List UInt8) : List UInt8 := if s = [] then [34, 34] else s
def qlr (w : WordG) : List UInt8 := qet (qls w.l)
def qes (st : List StageG) (k : Int) : List UInt8 := if k < 0 then qcf else (match st[k.toNat]? with | some x => x.name | none => [])
def qhx (ws : List WordG) : List UInt8 := ws.flatMap (fun w => 32 :: qlr w)
def qsq : List UInt8 := [32, 45, 45, 102, 114, 111, 109, 61]
def qks : List UInt8 := [70, 82, 79, 77, 32]
def wSAS : List UInt8 := [32, 65, 83, 32]
def qcj (st : List StageG) (x : StepG) : List UInt8 := x.op ++ (if 0 ≤ x.stage then qsq ++ qes st x.stage else [])
def qj6 (st : List StageG) (x : StepG) : List UInt8 := qcj st x ++ qhx x.words ++ [10]
def qbt (st : List StageG) (x : StageG) : List UInt8 := qks ++ qes st x.base ++ (if x.name = [] then [] else wSAS ++ x.name) ++ [10]
def qf8 (st : List StageG) (x : StageG) : List UInt8 := qbt st x ++ x.steps.flatMap (qj6 st)
def qwk (st : List StageG) : List UInt8 := st.flatMap (qf8 st)
theorem qh9 {α : Type} (f : α → List UInt8) (l : List α) (n : Nat) (h : ∀ x ∈ l, (f x).length ≤ n) : (l.flatMap f).length ≤ l.length * n := by
 induction l with
 | nil => simp
 | cons x r ih =>
  have h1 := h x List.mem_cons_self;have h2 := ih (fun y hy => h y (List.mem_cons_of_mem _ hy));simp only [List.flatMap_cons, List.length_append, List.length_cons, Nat.succ_mul];omega
theorem qd7 {α : Type} (f : α → List UInt8) (l : List α) (k : Nat) (h : k < l.length) : (l.take (k + 1)).flatMap f = (l.take k).flatMap f ++ f l[k] := by
 rw [List.take_succ_eq_append_getElem h, List.flatMap_append]; simp
theorem qct {α : Type} (f : α → List UInt8) (l : List α) (k n : Nat) (h : ∀ x ∈ l, (f x).length ≤ n) : ((l.take k).flatMap f).length ≤ l.length * n := by
 have := qh9 f (l.take k) n (fun x hx => h x (List.mem_of_mem_take hx));have h2 : (l.take k).length * n ≤ l.length * n := Nat.mul_le_mul_right _ (by rw [List.length_take]; omega);omega
theorem qqj {l : List Atm} (h : GoodA l) : ∀ x ∈ l, (qmn x).length ≤ 13 := by
 intro x hx;cases x with
 | ch c => have := qhh c; simp only [qmn]; omega
 | var n p => have := (h n p hx).2; simp [qmn]; omega
theorem qmy (s : List UInt8) : (qet s).length ≤ s.length + 2 := by unfold qet; split <;> simp
theorem qpx {ws : List WordG} (h : GoodW ws) : ∀ w ∈ ws, (qls w.l).length ≤ 26000 ∧ (qlr w).length ≤ 26002 := by
 intro w hw;obtain ⟨h1, h2⟩ := h w hw;have h3 : (qls w.l).length ≤ w.l.length * 13 := qh9 qmn w.l 13 (qqj h1);have := qmy (qls w.l);unfold qlr;omega
theorem qhd {st : List StageG} (h : FileT st) (k : Int) : (qes st k).length ≤ 10 := by
 unfold qes;split
 ·decide
 ·split
  ·rename_i x hx
   exact (h x (List.mem_of_getElem? hx)).1
  ·simp
theorem ql6 {op : List UInt8} (h : qbs op ≠ none) : op.length ≤ 7 := by
 unfold qbs at h;repeat' split at h
 all_goals first
  | (rename_i e; rw [e]; decide)
  | exact absurd rfl h
theorem qmp {y : StepG} (h : qtp y) : ∀ k, (qhx (y.words.take k)).length ≤ 80000 := by
 intro k;have := qct (fun w : WordG => 32 :: qlr w) y.words k 26003 (fun w hw => by have := (qpx h.2.1 w hw).2; simp; omega);have h1 := h.1;have h2 : y.words.length * 26003 ≤ 3 * 26003 := Nat.mul_le_mul_right _ h1;unfold qhx;omega
theorem qii {st : List StageG} {y : StepG} (h : qtp y) (ht : FileT st) : (qcj st y).length ≤ 30 := by
 have h1 := ql6 h.2.2;have h2 := qhd ht y.stage;unfold qcj;split
 ·simp only [List.length_append, qsq, List.length_cons, List.length_nil]; omega
 ·simp only [List.length_append, List.length_nil]; omega
theorem qwu {st : List StageG} {y : StepG} (h : qtp y) (ht : FileT st) : (qj6 st y).length ≤ 80031 := by
 have h1 := qii h ht;have h2 := qmp h y.words.length;rw [List.take_length] at h2;unfold qj6;simp only [List.length_append, List.length_cons, List.length_nil]; omega
theorem qhz {st : List StageG} {x : StageG} (h : qmb x) (ht : FileT st) : (qbt st x).length ≤ 30 := by
 have h1 := h.1;have h2 := qhd ht x.base;unfold qbt;split
 ·simp only [List.length_append, qks, List.length_cons, List.length_nil]; omega
 ·simp only [List.length_append, qks, wSAS, List.length_cons, List.length_nil]; omega
theorem qmq {st : List StageG} {x : StageG} (h : qmb x) (ht : FileT st) (h24 : x.steps.length ≤ 24) (k : Nat) : ((x.steps.take k).flatMap (qj6 st)).length ≤ 1920744 := by
 have := qct (qj6 st) x.steps k 80031 (fun y hy => qwu (h.2 y hy) ht);have h2 : x.steps.length * 80031 ≤ 24 * 80031 := Nat.mul_le_mul_right _ h24;omega
theorem qt6 {st : List StageG} {x : StageG} (h : qmb x) (ht : FileT st) (h24 : x.steps.length ≤ 24) : (qf8 st x).length ≤ 1920774 := by
 have h1 := qhz h ht;have h2 := qmq h ht h24 x.steps.length;rw [List.take_length] at h2;unfold qf8;simp only [List.length_append]; omega
theorem qwj {st : List StageG} (ht : FileT st) (hb : StB 24 st) (h5 : st.length ≤ 5) (k : Nat) : ((st.take k).flatMap (qf8 st)).length ≤ 9603870 := by
 have := qct (qf8 st) st k 1920774 (fun x hx => qt6 (ht x hx) ht (hb x hx).2);have h2 : st.length * 1920774 ≤ 5 * 1920774 := Nat.mul_le_mul_right _ h5;omega
theorem GoodW.drop {ws : List WordG} (h : GoodW ws) (k : Nat) : GoodW (ws.drop k) := fun x hx => h x (List.mem_of_mem_drop hx)
def qqg (b : List Bool) : List Value := b.map .bool
def ints (l : List Nat) : List Value := l.map fun (i : Nat) => .int .i64 (i : Int)
theorem qqf (b : List Bool) (k : Nat) : (qqg b).set k (.bool true) = qqg (b.set k true) := by simp [qqg, List.map_set]
theorem qkd {w : World} {B g n c : Nat} {e : TypeId} {b : List Bool} (h : w.ownsRow B e 1 (.slice (some ⟨g, 0, none⟩) n c) n (qqg b)) {k : Nat} {v : Bool} (hk : b[k]? = some v) : w.cell? ⟨g, k, none⟩ = some (.bool v) ∧ w.frozen? ⟨g, k, none⟩ = false := by
 have hc := h.cells (g := g) rfl k (.bool v) (by simp [qqg, hk]);have ha : (⟨g, 0, none⟩ : Addr).add k = ⟨g, k, none⟩ := by unfold Addr.add; split <;> simp_all
 rw [ha] at hc;rcases h.2 with ⟨e1, _⟩ | ⟨g', cap, cur, e1, hg, hh, r⟩
 ·simp at e1
 ·simp only [Value.slice.injEq, Option.some.injEq, Addr.mk.injEq] at e1
  obtain ⟨⟨rfl, -, -⟩, -, -⟩ := e1;exact ⟨hc, frozen_of_row w g _ _ _ hh⟩
structure NInv (w0 : World) (gn m : Nat) (st : List StageG) (w : World) (b : List Bool) : Prop where
 own : w.ownsRow w0.heap.size 4 1 (.slice (some ⟨gn, 0, none⟩) (m + 1) (m + 1)) (m + 1) (qqg b)
 marks : Marks st b
 bel : Below w0.heap.size w0 w
 gge : w0.heap.size ≤ gn
theorem NInv.after {w0 w w' : World} {gn m : Nat} {st : List StageG} {b : List Bool} (h : NInv w0 gn m st w b) (hb : Below w.heap.size w w') : NInv w0 gn m st w' b :=
 ⟨qac h.own hb, h.marks, h.bel.trans (hb.mono h.bel.size), h.gge⟩
theorem qxo {w : World} {B g n c size : Nat} {e : TypeId} {xs : List Value} (h : w.ownsRow B e size (.slice (some ⟨g, 0, none⟩) n c) n xs) : g + 1 ≤ w.heap.size := qs3 h g rfl
theorem NInv.grown {w0 w w' : World} {gn m B : Nat} {st : List StageG} {b : List Bool} {row : Option Nat} (h : NInv w0 gn m st w b) (hg : w.grownBy w' row) (hne : some gn ≠ row) (hB : B ≤ w.heap.size) (hr : ∀ k, row = some k → gn + 1 ≤ k) : NInv w0 gn m st w' b := by
 refine ⟨?_, h.marks, h.bel.grown hg h.bel.size (fun k hk => by have := hr k hk; have := h.gge; omega), h.gge⟩;obtain ⟨h1, h2⟩ := h.own;refine ⟨h1, ?_⟩;rcases h2 with h2 | ⟨g, cap, cur, hv, hg2, hh, r⟩
 ·exact .inl h2
 ·refine .inr ⟨g, cap, cur, hv, hg2, (hg.block g (q41 hh).1 ?_).trans hh, r⟩
  simp only [Value.slice.injEq, Option.some.injEq, Addr.mk.injEq] at hv;rw [← hv.1.1]; exact hne
theorem NInv.mark {w0 w : World} {gn m : Nat} {st : List StageG} {b : List Bool} (h : NInv w0 gn m st w b) {k : Nat} (hk : k < m + 1) (hm : Marks st (b.set k true)) : NInv w0 gn m st (w.setCell ⟨gn, k, none⟩ (.bool true)) (b.set k true) :=
 ⟨by rw [← qqf]; exact qdo h.own k (.bool true) (by omega), hm, Below.setCell h.bel (show w0.heap.size ≤ gn from h.gge) _, h.gge⟩
end Go.Proofs.YtikdblkfjchjbaaGreatDoor
