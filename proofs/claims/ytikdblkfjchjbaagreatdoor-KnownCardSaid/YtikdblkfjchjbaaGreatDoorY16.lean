import Derived.Handy
import Derived.Test.YtikdblkfjchjbaaGreatDoorY00
set_option linter.unusedVariables false
set_option linter.unusedSimpArgs false
set_option maxHeartbeats 16000000
set_option maxRecDepth 100000
namespace Go.Proofs.YtikdblkfjchjbaaGreatDoor
open Go.RowKit
def Atm.agg : Atm → Value
 | .ch c => .agg #[.int .u8 c.toNat, .string (S []), .int .i64 0]
 | .var n p => .agg #[.int .u8 0, .string (S n), .int .i64 p]
def Atm.cells : Atm → List Value
 | .ch c => [.int .u8 c.toNat, .string (S []), .int .i64 0]
 | .var n p => [.int .u8 0, .string (S n), .int .i64 p]
theorem qv2 (w : World) (a b c : Value) (t : TypeId) : ∀ j u, [a, b, c][j]? = some u → (w.alloc (.cells #[a, b, c] t)).cell? ((⟨w.heap.size, 0, none⟩ : Addr).add j) = some u := by
 intro j u h;match j, h with
 | 0, h => simp at h; subst h; simp [Addr.add]
 | 1, h => simp at h; subst h; simp [Addr.add]
 | 2, h => simp at h; subst h; simp [Addr.add]
theorem qi5 (w : World) (a b c : Value) (t : TypeId) (B : Nat) (hB : w.heap.size = B) : ∀ j u, [a, b, c][j]? = some u → (w.alloc (.cells #[a, b, c] t)).cell? ((⟨B, 0, none⟩ : Addr).add j) = some u := by subst hB; exact qv2 w a b c t
def Blk2 (w : World) (g : Nat) (a b : Value) : Prop := ∃ t, w.heap[g]? = some (.cells #[a, b] t (0, 0))
theorem Blk2.facts {w : World} {g : Nat} {a b : Value} (h : Blk2 w g a b) : w.cell? ⟨g, 0, none⟩ = some a ∧ w.cell? ⟨g, 1, none⟩ = some b ∧ w.frozen? ⟨g, 0, none⟩ = false ∧ w.frozen? ⟨g, 1, none⟩ = false := by
 obtain ⟨t, h⟩ := h;refine ⟨?_, ?_, frozen_of_row w g 0 _ t h, frozen_of_row w g 1 _ t h⟩
 ·rw [cell_of_row w g 0 _ t (0, 0) h]; rfl
 ·rw [cell_of_row w g 1 _ t (0, 0) h]; rfl
theorem Blk2.below {w w' : World} {g B : Nat} {a b : Value} (h : Blk2 w g a b) (hb : Below B w w') (hg : g < B) : Blk2 w' g a b := by
 obtain ⟨t, h⟩ := h;exact ⟨t, (hb.block g hg).trans h⟩
theorem Blk2.lt {w : World} {g : Nat} {a b : Value} (h : Blk2 w g a b) : g < w.heap.size := by
 obtain ⟨t, h⟩ := h;exact (q41 h).1
theorem Blk2.grown {w w' : World} {g : Nat} {a b : Value} {row : Option Nat} (h : Blk2 w g a b) (hg : w.grownBy w' row) (hne : some g ≠ row) : Blk2 w' g a b := by
 have hl := h.lt;obtain ⟨t, h⟩ := h;exact ⟨t, (hg.block g hl hne).trans h⟩
theorem Blk2.far {w : World} {g g' o : Nat} {a b : Value} (h : Blk2 w g a b) (u : Value) (hne : g ≠ g') : Blk2 (w.setCell ⟨g', o, none⟩ u) g a b := by
 obtain ⟨t, h⟩ := h;exact ⟨t, by rw [heap_setCell_other w _ g u hne]; exact h⟩
theorem Blk2.new (w : World) (a b : Value) (t : TypeId) : Blk2 (w.alloc (.cells #[a, b] t)) w.heap.size a b := ⟨t, heap_alloc_new w _⟩
theorem qra {s : List UInt8} {q k : Nat} {acc : List Atm} (h : s.length ≤ k) : qav s q k acc = .error q := by rw [qav, dif_neg (by omega)]
theorem qug {s : List UInt8} {q k : Nat} {acc : List Atm} (h : k < s.length) (c : s[k] = 10) : qav s q k acc = .error q := by rw [qav, dif_pos h, if_pos c]
theorem qo6 {s : List UInt8} {q k : Nat} {acc : List Atm} (h : k < s.length) (c : s[k] = 34) : qav s q k acc = .ok (acc, k + 1) := by rw [qav, dif_pos h, if_neg (by rw [c]; decide), if_pos c]
theorem qo5 {s : List UInt8} {q k : Nat} {acc : List Atm} (h : k < s.length) (c : s[k] = 36) (v : varB s k = none) : qav s q k acc = .error k := by
 rw [qav, dif_pos h, if_neg (by rw [c]; decide), if_neg (by rw [c]; decide), if_pos c];split
 ·rfl
 ·rename_i h1; rw [v] at h1; cases h1
theorem qq8 {s : List UInt8} {q k : Nat} {acc : List Atm} {x : List UInt8} {n : Nat} (h : k < s.length) (c : s[k] = 36) (v : varB s k = some (x, n)) : qav s q k acc = qav s q (k + n) (acc ++ [.var x k]) := by
 conv => lhs; rw [qav, dif_pos h, if_neg (by rw [c]; decide), if_neg (by rw [c]; decide), if_pos c]
 split
 ·rename_i h1; rw [v] at h1; cases h1
 ·rename_i x' n' h1; rw [v] at h1; cases h1; rfl
theorem qq9 {s : List UInt8} {q k : Nat} {acc : List Atm} (h : k + 1 < s.length) (c : s[k] = 92) (d : s[k + 1] = 34 ∨ s[k + 1] = 92 ∨ s[k + 1] = 36) : qav s q k acc = qav s q (k + 2) (acc ++ [.ch s[k + 1]]) := by
 conv => lhs; rw [qav, dif_pos (show k < s.length by omega), if_neg (by rw [c]; decide), if_neg (by rw [c]; decide), if_neg (by rw [c]; decide), if_pos c, dif_pos h, if_pos d]
theorem qjy {s : List UInt8} {q k : Nat} {acc : List Atm} (h : k < s.length) (c : s[k] = 92) (d : ∀ h1 : k + 1 < s.length, ¬ (s[k + 1] = 34 ∨ s[k + 1] = 92 ∨ s[k + 1] = 36)) : qav s q k acc = .error k := by
 rw [qav, dif_pos h, if_neg (by rw [c]; decide), if_neg (by rw [c]; decide), if_neg (by rw [c]; decide), if_pos c];split
 ·rename_i h1; rw [if_neg (d h1)]
 ·rfl
theorem quh {s : List UInt8} {q k : Nat} {acc : List Atm} (h : k < s.length) (c1 : s[k] ≠ 10) (c2 : s[k] ≠ 34) (c3 : s[k] ≠ 36) (c4 : s[k] ≠ 92) : qav s q k acc = qav s q (k + 1) (acc ++ [.ch s[k]]) := by
 conv => lhs; rw [qav, dif_pos h, if_neg c1, if_neg c2, if_neg c3, if_neg c4]
theorem qoh {c d : UInt8} (h : c ≠ d) : ((c.toNat : Int) == (d.toNat : Int)) = false := by
 rw [beq_eq_false_iff_ne]; intro e; exact h (qzt.2 e)
theorem qhq {s : List UInt8} {i : Nat} (h : qb4 s i = true) : i + 1 < s.length ∧ s[i]? = some 92 ∧ s[i + 1]? = some 10 := by
 simp only [qb4, Bool.and_eq_true, beq_iff_eq] at h;exact ⟨(List.getElem?_eq_some_iff.1 h.2).1, h.1, h.2⟩
theorem qwe {s : List UInt8} {i : Nat} {acc : List Atm} (h : s.length ≤ i) : qbg s i acc = .ok (acc, i) := by rw [qbg, dif_neg (by omega)]
theorem qja {s : List UInt8} {i : Nat} {acc : List Atm} (h : i < s.length) (c : s[i] = 10 ∨ qb4 s i = true ∨ s[i] = 32) : qbg s i acc = .ok (acc, i) := by rw [qbg, dif_pos h, if_pos c]
theorem qzl {s : List UInt8} {i p : Nat} {acc : List Atm} (h : i < s.length) (c : s[i] = 34) (g : qb4 s i = false) (v : qav s i (i + 1) [] = .error p) : qbg s i acc = .error p := by
 rw [qbg, dif_pos h, if_neg (by rw [c, g]; decide), if_pos c];split
 ·rename_i h1; rw [v] at h1; cases h1; rfl
 ·rename_i h1; rw [v] at h1; cases h1
theorem q2g {s : List UInt8} {i n : Nat} {acc l : List Atm} (h : i < s.length) (c : s[i] = 34) (g : qb4 s i = false) (v : qav s i (i + 1) [] = .ok (l, n)) : qbg s i acc = qbg s n (acc ++ l) := by
 conv => lhs; rw [qbg, dif_pos h, if_neg (by rw [c, g]; decide), if_pos c]
 split
 ·rename_i h1; rw [v] at h1; cases h1
 ·rename_i h1; rw [v] at h1; cases h1; rfl
theorem qtt {s : List UInt8} {i : Nat} {acc : List Atm} (h : i < s.length) (c : s[i] = 36) (g : qb4 s i = false) (v : varB s i = none) : qbg s i acc = .error i := by
 rw [qbg, dif_pos h, if_neg (by rw [c, g]; decide), if_neg (by rw [c]; decide), if_pos c];split
 ·rfl
 ·rename_i h1; rw [v] at h1; cases h1
theorem qwc {s : List UInt8} {i n : Nat} {acc : List Atm} {x : List UInt8} (h : i < s.length) (c : s[i] = 36) (g : qb4 s i = false) (v : varB s i = some (x, n)) : qbg s i acc = qbg s (i + n) (acc ++ [.var x i]) := by
 conv => lhs; rw [qbg, dif_pos h, if_neg (by rw [c, g]; decide), if_neg (by rw [c]; decide), if_pos c]
 split
 ·rename_i h1; rw [v] at h1; cases h1
 ·rename_i h1; rw [v] at h1; cases h1; rfl
theorem qwd {s : List UInt8} {i : Nat} {acc : List Atm} (h : i + 1 < s.length) (c : s[i] = 92) (g : qb4 s i = false) : qbg s i acc = qbg s (i + 2) (acc ++ [.ch s[i + 1]]) := by
 conv => lhs; rw [qbg, dif_pos (show i < s.length by omega), if_neg (by rw [c, g]; decide), if_neg (by rw [c]; decide), if_neg (by rw [c]; decide), if_pos c, dif_pos h]
theorem qtv {s : List UInt8} {i : Nat} {acc : List Atm} (h : i < s.length) (c : s[i] = 92) (g : qb4 s i = false) (hl : s.length ≤ i + 1) : qbg s i acc = .error i := by
 rw [qbg, dif_pos h, if_neg (by rw [c, g]; decide), if_neg (by rw [c]; decide), if_neg (by rw [c]; decide), if_pos c, dif_neg (by omega)]
theorem qzm {s : List UInt8} {i : Nat} {acc : List Atm} (h : i < s.length) (c1 : s[i] ≠ 10) (c0 : s[i] ≠ 32) (g : qb4 s i = false) (c2 : s[i] ≠ 34) (c3 : s[i] ≠ 36) (c4 : s[i] ≠ 92) : qbg s i acc = qbg s (i + 1) (acc ++ [.ch s[i]]) := by
 conv => lhs; rw [qbg, dif_pos h, if_neg (by rw [g]; simp [c1, c0]), if_neg c2, if_neg c3, if_neg c4]
theorem qe7 (s : List UInt8) (i : Nat) (acc l : List Atm) (n : Nat) (h : qbg s i acc = .ok (l, n)) (hi : i ≤ s.length) : i ≤ n ∧ n ≤ s.length ∧ l.length + i ≤ n + acc.length := by
 induction hm : s.length - i using Nat.strongRecOn generalizing i acc with
 | ind m ih =>
  rw [qbg] at h;split at h
  ·split at h
   ·simp only [Except.ok.injEq, Prod.mk.injEq] at h; obtain ⟨rfl, rfl⟩ := h; omega
   ·split at h
    ·split at h
     ·cases h
     ·rename_i l' n' hq
      have := qem _ _ _ _ _ _ hq;have := ih (s.length - n') (by omega) _ _ h (by omega) rfl;simp at this ⊢; simp at *; omega
    ·split at h
     ·split at h
      ·cases h
      ·rename_i x n' hv
       obtain ⟨v1, v2, v3, v4⟩ := qei hv;have := ih (s.length - (i + n')) (by omega) _ _ h (by omega) rfl;simp at this; omega
     ·split at h
      ·split at h
       ·have := ih (s.length - (i + 2)) (by omega) _ _ h (by omega) rfl
        simp at this; omega
       ·cases h
      ·have := ih (s.length - (i + 1)) (by omega) _ _ h (by omega) rfl
       simp at this; omega
  ·cases h; omega
theorem qer (s : List UInt8) (i : Nat) (acc l : List Atm) (n : Nat) (h : qbg s i acc = .ok (l, n)) (hi : i < s.length) (c1 : s[i] ≠ 10) (c0 : s[i] ≠ 32) (g : qb4 s i = false) : i < n := by
 rw [qbg, dif_pos hi, if_neg (by rw [g]; simp [c1, c0])] at h;split at h
 ·split at h
  ·cases h
  ·rename_i l' n' hq
   have := qem _ _ _ _ _ _ hq;have := qe7 _ _ _ _ _ h (by omega);omega
 ·split at h
  ·split at h
   ·cases h
   ·rename_i x n' hv
    obtain ⟨v1, v2, v3, v4⟩ := qei hv;have := qe7 _ _ _ _ _ h (by omega);omega
  ·split at h
   ·split at h
    ·have := qe7 _ _ _ _ _ h (by omega); omega
    ·cases h
   ·have := qe7 _ _ _ _ _ h (by omega); omega
theorem qbo {s : List UInt8} {i : Nat} (h : qa7 s i = false) : ∃ hi : i < s.length, s[i] ≠ 10 := by
 unfold qa7 at h;split at h
 ·cases h
 ·rename_i c hc
  obtain ⟨h1, h2⟩ := List.getElem?_eq_some_iff.1 hc;exact ⟨h1, by rw [h2]; simpa using h⟩
def qbw (s : List UInt8) (i : Nat) : Nat := if h : qa7 s i = true then i else qbw s (i + 1)
termination_by s.length - i
decreasing_by
 have := qbo (i := i) (s := s) (by simpa using h);obtain ⟨h1, _⟩ := this;omega
theorem qi4 {s : List UInt8} {i : Nat} (h : qa7 s i = true) : qbw s i = i := by rw [qbw, dif_pos h]
theorem ql3 {s : List UInt8} {i : Nat} (h : qa7 s i = false) : qbw s i = qbw s (i + 1) := by
 conv => lhs; rw [qbw, dif_neg (by simp [h])]
theorem qsh (s : List UInt8) (i : Nat) (hi : i ≤ s.length) : i ≤ qbw s i ∧ qbw s i ≤ s.length ∧ qa7 s (qbw s i) = true := by
 induction hm : s.length - i using Nat.strongRecOn generalizing i with
 | ind m ih =>
  cases h : qa7 s i with
  | true => rw [qi4 h]; exact ⟨Nat.le_refl _, hi, h⟩
  | false =>
   rw [ql3 h];obtain ⟨h1, _⟩ := qbo h;have := ih (s.length - (i + 1)) (by omega) (i + 1) (by omega) rfl;exact ⟨by omega, this.2.1, this.2.2⟩
structure WordG where
 l : List Atm
 at_ : Nat
 deriving DecidableEq
def qbx (s : List UInt8) (i : Nat) (acc : List WordG) : Except Nat (List WordG × Nat) :=
 if h : qa7 s i = true then .ok (acc, i + 1)
 else if qb4 s i = true then qbx s (i + 2) acc
 else if s[i]? = some 32 then qbx s (i + 1) acc
 else if s[i]? = some 35 ∧ acc = [] then .ok (acc, qbw s i + 1)
 else match qbg s i [] with
  | .error p => .error p
  | .ok (l, n) => if i < n then qbx s n (acc ++ [⟨l, i⟩]) else .error i
termination_by s.length - i
decreasing_by
 all_goals
  have := qbo (i := i) (s := s) (by simpa using h);obtain ⟨h1, _⟩ := this;omega
theorem qjm {s : List UInt8} {i : Nat} {acc : List WordG} (h : qa7 s i = true) : qbx s i acc = .ok (acc, i + 1) := by rw [qbx, dif_pos h]
theorem qjn {s : List UInt8} {i : Nat} {acc : List WordG} (h : qa7 s i = false) (g : qb4 s i = true) : qbx s i acc = qbx s (i + 2) acc := by
 conv => lhs; rw [qbx, dif_neg (by simp [h]), if_pos g]
theorem qh6 {s : List UInt8} {i : Nat} {acc : List WordG} (h : qa7 s i = false) (g : qb4 s i = false) (c : s[i]? = some 32) : qbx s i acc = qbx s (i + 1) acc := by
 conv => lhs; rw [qbx, dif_neg (by simp [h]), if_neg (by simp [g]), if_pos c]
theorem qf1 {s : List UInt8} {i : Nat} (h : qa7 s i = false) (g : qb4 s i = false) (c : s[i]? = some 35) : qbx s i [] = .ok ([], qbw s i + 1) := by
 rw [qbx, dif_neg (by simp [h]), if_neg (by simp [g]), if_neg (by rw [c]; decide), if_pos ⟨c, rfl⟩]
theorem qfz {s : List UInt8} {i p : Nat} {acc : List WordG} (h : qa7 s i = false) (g : qb4 s i = false) (c : s[i]? ≠ some 32) (d : ¬ (s[i]? = some 35 ∧ acc = [])) (v : qbg s i [] = .error p) : qbx s i acc = .error p := by
 rw [qbx, dif_neg (by simp [h]), if_neg (by simp [g]), if_neg c, if_neg d, v]
theorem qhn {s : List UInt8} {i n : Nat} {acc : List WordG} {l : List Atm} (h : qa7 s i = false) (g : qb4 s i = false) (c : s[i]? ≠ some 32) (d : ¬ (s[i]? = some 35 ∧ acc = [])) (v : qbg s i [] = .ok (l, n)) : qbx s i acc = qbx s n (acc ++ [⟨l, i⟩]) := by
 obtain ⟨hi, n10⟩ := qbo h;have := qer s i [] l n v hi n10 (by intro e; apply c; rw [List.getElem?_eq_getElem hi, e]) g;conv => lhs; rw [qbx, dif_neg (by simp [h]), if_neg (by simp [g]), if_neg c, if_neg d, v]
 simp only [this, if_true]
theorem qf0 (s : List UInt8) (i : Nat) (acc l : List WordG) (n : Nat) (h : qbx s i acc = .ok (l, n)) : i < n ∧ (i ≤ s.length → n ≤ s.length + 1 ∧ l.length + i ≤ n + acc.length) := by
 induction hm : s.length - i using Nat.strongRecOn generalizing i acc with
 | ind m ih =>
  cases hs : qa7 s i with
  | true => rw [qjm hs] at h; cases h; omega
  | false =>
   obtain ⟨hi, n10⟩ := qbo hs;cases hg : qb4 s i with
   | true =>
    obtain ⟨hg1, _⟩ := qhq hg;rw [qjn hs hg] at h;have := ih (s.length - (i + 2)) (by omega) _ _ h rfl;omega
   | false =>
    by_cases c : s[i]? = some 32
    ·rw [qh6 hs hg c] at h
     have := ih (s.length - (i + 1)) (by omega) _ _ h rfl;omega
    ·by_cases d : s[i]? = some 35 ∧ acc = []
     ·obtain ⟨d1, rfl⟩ := d
      rw [qf1 hs hg d1] at h;have := qsh s i (by omega);cases h;simp; omega
     ·cases hw : qbg s i [] with
      | error p => rw [qfz hs hg c d hw] at h; cases h
      | ok ln =>
       obtain ⟨l', n'⟩ := ln;have h1 := qe7 _ _ _ _ _ hw (by omega);have h2 := qer s i [] l' n' hw hi n10 (by intro e; apply c; rw [List.getElem?_eq_getElem hi, e]) hg;rw [qhn hs hg c d hw] at h;have := ih (s.length - n') (by omega) _ _ h rfl;simp at this; omega
def GoodA (l : List Atm) : Prop := ∀ x p, Atm.var x p ∈ l → x ≠ [] ∧ x.length ≤ 10
theorem GoodA.nil : GoodA [] := fun _ _ h => by cases h
theorem GoodA.app {l m : List Atm} (h : GoodA l) (k : GoodA m) : GoodA (l ++ m) := fun x p hx => by
 rcases List.mem_append.1 hx with hx | hx
 ·exact h x p hx
 ·exact k x p hx
theorem GoodA.ch (c : UInt8) : GoodA [.ch c] := fun x p hx => by simp at hx
theorem GoodA.var {x : List UInt8} {p : Nat} (h : x ≠ [] ∧ x.length ≤ 10) : GoodA [.var x p] := fun y q hy => by
 simp at hy; rw [hy.1]; exact h
theorem qjx (s : List UInt8) (q k : Nat) (acc l : List Atm) (n : Nat) (h : qav s q k acc = .ok (l, n)) (g : GoodA acc) : GoodA l := by
 induction hm : s.length - k using Nat.strongRecOn generalizing k acc with
 | ind m ih =>
  rw [qav] at h;split at h
  ·split at h
   ·cases h
   ·split at h
    ·simp only [Except.ok.injEq, Prod.mk.injEq] at h; obtain ⟨rfl, rfl⟩ := h; exact g
    ·split at h
     ·split at h
      ·cases h
      ·rename_i x n' hv
       obtain ⟨v1, v2, v3, v4⟩ := qei hv;exact ih (s.length - (k + n')) (by omega) _ _ h (g.app (GoodA.var ⟨v3, v4⟩)) rfl
     ·split at h
      ·split at h
       ·split at h
        ·exact ih (s.length - (k + 2)) (by omega) _ _ h (g.app (GoodA.ch _)) rfl
        ·cases h
       ·cases h
      ·exact ih (s.length - (k + 1)) (by omega) _ _ h (g.app (GoodA.ch _)) rfl
  ·cases h
theorem qtu (s : List UInt8) (i : Nat) (acc l : List Atm) (n : Nat) (h : qbg s i acc = .ok (l, n)) (g : GoodA acc) : GoodA l := by
 induction hm : s.length - i using Nat.strongRecOn generalizing i acc with
 | ind m ih =>
  rw [qbg] at h;split at h
  ·split at h
   ·simp only [Except.ok.injEq, Prod.mk.injEq] at h; obtain ⟨rfl, rfl⟩ := h; exact g
   ·split at h
    ·split at h
     ·cases h
     ·rename_i l' n' hq
      have := qem _ _ _ _ _ _ hq;exact ih (s.length - n') (by omega) _ _ h (g.app (qjx _ _ _ _ _ _ hq GoodA.nil)) rfl
    ·split at h
     ·split at h
      ·cases h
      ·rename_i x n' hv
       obtain ⟨v1, v2, v3, v4⟩ := qei hv;exact ih (s.length - (i + n')) (by omega) _ _ h (g.app (GoodA.var ⟨v3, v4⟩)) rfl
     ·split at h
      ·split at h
       ·exact ih (s.length - (i + 2)) (by omega) _ _ h (g.app (GoodA.ch _)) rfl
       ·cases h
      ·exact ih (s.length - (i + 1)) (by omega) _ _ h (g.app (GoodA.ch _)) rfl
  ·cases h; exact g
def q4n (s : List UInt8) (ws : List WordG) : Prop := ∀ x ∈ ws, GoodA x.l ∧ x.l.length ≤ s.length ∧ x.at_ ≤ s.length
theorem qm3 (s : List UInt8) (i : Nat) (acc l : List WordG) (n : Nat) (h : qbx s i acc = .ok (l, n)) (g : q4n s acc) : q4n s l := by
 induction hm : s.length - i using Nat.strongRecOn generalizing i acc with
 | ind m ih =>
  cases hs : qa7 s i with
  | true => rw [qjm hs] at h; cases h; exact g
  | false =>
   obtain ⟨hi, n10⟩ := qbo hs;cases hg : qb4 s i with
   | true =>
    obtain ⟨hg1, _⟩ := qhq hg;rw [qjn hs hg] at h;exact ih (s.length - (i + 2)) (by omega) _ _ h g rfl
   | false =>
    by_cases c : s[i]? = some 32
    ·rw [qh6 hs hg c] at h
     exact ih (s.length - (i + 1)) (by omega) _ _ h g rfl
    ·by_cases d : s[i]? = some 35 ∧ acc = []
     ·obtain ⟨d1, rfl⟩ := d
      rw [qf1 hs hg d1] at h;cases h;exact g
     ·cases hw : qbg s i [] with
      | error p => rw [qfz hs hg c d hw] at h; cases h
      | ok ln =>
       obtain ⟨l', n'⟩ := ln;have h1 := qe7 _ _ _ _ _ hw (by omega);have h2 := qer s i [] l' n' hw hi n10 (by intro e; apply c; rw [List.getElem?_eq_getElem hi, e]) hg;rw [qhn hs hg c d hw] at h;refine ih (s.length - n') (by omega) _ _ h ?_ rfl;intro x hx;rcases List.mem_append.1 hx with hx | hx
       ·exact g x hx
       ·simp at hx h1; subst hx; exact ⟨qtu _ _ _ _ _ hw GoodA.nil, by simp; omega, by simp; omega⟩
def qb9 : List Atm → List UInt8 → List UInt8 × Bool
 | [], acc => (acc, true)
 | .ch c :: r, acc => qb9 r (acc ++ [c])
 | .var _ _ :: _, _ => ([], false)
def WordG.text (w : WordG) : List UInt8 := (qb9 w.l []).1
def WordG.flat (w : WordG) : Bool := (qb9 w.l []).2
theorem quq (l : List Atm) (acc : List UInt8) : (qb9 l acc).1.length ≤ l.length + acc.length := by
 induction l generalizing acc with
 | nil => simp [qb9]
 | cons x r ih =>
  cases x with
  | ch c => rw [qb9]; have := ih (acc ++ [c]); simp at this ⊢; omega
  | var n p => simp [qb9]
structure StepG where
 op : List UInt8
 words : List WordG
 stage : Int
 at_ : Nat
 deriving DecidableEq
structure StageG where
 name : List UInt8
 base : Int
 steps : List StepG
 vars : List (List UInt8)
 deriving DecidableEq
def qik (c : UInt8) : Bool := 97 ≤ c && c ≤ 122
def qnh (c : UInt8) : Bool := 48 ≤ c && c ≤ 57
theorem qjd (c : UInt8) : qik c = true ↔ 97 ≤ (c.toNat : Int) ∧ (c.toNat : Int) ≤ 122 := by
 simp only [qik, Bool.and_eq_true, decide_eq_true_eq, UInt8.le_iff_toNat_le]; simp; omega
theorem qng (c : UInt8) : qnh c = true ↔ 48 ≤ (c.toNat : Int) ∧ (c.toNat : Int) ≤ 57 := by
 simp only [qnh, Bool.and_eq_true, decide_eq_true_eq, UInt8.le_iff_toNat_le]; simp; omega
def okS (s : List UInt8) (j : Nat) : Bool := match s[j]? with | none => true | some c => qik c || (qnh c && decide (j ≠ 0))
def qb8 (s : List UInt8) : Bool := (List.range s.length).all (okS s) && !s.isEmpty && decide (s.length ≤ 10)
def qa2 (l : List StageG) (name : List UInt8) : Int :=
 match l.findIdx? (fun x => x.name == name) with | some k => k | none => -1
def qco : List UInt8 := [70, 82, 79, 77]
def qge : List UInt8 := [67, 79, 80, 89]
def wADD : List UInt8 := [65, 68, 68]
def qkr : List UInt8 := [76, 73, 78, 75]
def wENV : List UInt8 := [69, 78, 86]
def wRM : List UInt8 := [82, 77]
def qc6 : List UInt8 := [87, 79, 82, 75, 68, 73, 82]
def qdy : List UInt8 := [77, 75, 68, 73, 82]
def wAS : List UInt8 := [65, 83]
def qcf : List UInt8 := [115, 99, 114, 97, 116, 99, 104]
def qzo : List UInt8 := [45, 45, 102, 114, 111, 109, 61]
def qbs (op : List UInt8) : Option (Nat × Nat) :=
 if op = qco then some (1, 3) else if op = qge then some (2, 3)
 else if op = wADD then some (2, 2) else if op = qkr then some (2, 2) else if op = wENV then some (2, 2)
 else if op = wRM then some (1, 1) else if op = qc6 then some (1, 1)
 else if op = qdy then some (1, 2) else none
def nth (w : List WordG) (k : Nat) : WordG := w.getD k ⟨[], 0⟩
theorem q14 {w : List WordG} {k : Nat} (h : k < w.length) : nth w k = w[k] := by simp [nth, h]
abbrev Flt := Nat × Nat
def qhy (st : List StageG) (k : Int) : List (List UInt8) := if 0 ≤ k then (match st[k.toNat]? with | some x => x.vars | none => []) else []
def qx0 (w : List WordG) : Except Flt (List UInt8) :=
 if w.length = 3 ∨ w.length = 4 then
  if (nth w 2).text ≠ wAS then .error (5, (nth w 2).at_)
  else if w.length = 3 then .error (5, (nth w 0).at_)
  else if qb8 (nth w 3).text = false then .error (5, (nth w 3).at_)
  else .ok (nth w 3).text
 else .ok []
def qmj (st : List StageG) (w : List WordG) : Except Flt (List StageG) :=
 match qx0 w with
 | .error f => .error f
 | .ok name =>
  if qb8 (nth w 1).text = false then .error (5, (nth w 1).at_)
  else if qa2 st (nth w 1).text < 0 ∧ (nth w 1).text ≠ qcf then .error (6, (nth w 1).at_)
  else if name ≠ [] ∧ (name = qcf ∨ 0 ≤ qa2 st name) then .error (6, (nth w 3).at_)
  else if st.length = 5 then .error (10, (nth w 0).at_)
  else .ok (st ++ [⟨name, qa2 st (nth w 1).text, [], qhy st (qa2 st (nth w 1).text)⟩])
def q02 (w : WordG) : Bool := qzo.isPrefixOf w.text && w.flat
def qoj (st : List StageG) (w : List WordG) : Except Flt (Int × List WordG) :=
 if q02 (nth w 1) ≠ decide (w.length = 4) then .error (5, (nth w 0).at_)
 else if q02 (nth w 1) = false then .ok (-1, w.drop 1)
 else if qb8 ((nth w 1).text.drop 7) = false then .error (5, (nth w 1).at_)
 else if qa2 st ((nth w 1).text.drop 7) < 0 ∨ qa2 st ((nth w 1).text.drop 7) = (st.length : Int) - 1 then .error (6, (nth w 1).at_)
 else .ok (qa2 st ((nth w 1).text.drop 7), w.drop 2)
def octC (c : UInt8) : Bool := 48 ≤ c && c ≤ 55
def qj9 (s : List UInt8) : Bool := decide (s.length = 3) && s.all octC
def qcr (vars : List (List UInt8)) : List Atm → Option Nat
 | [] => none
 | .ch _ :: r => qcr vars r
 | .var x p :: r => if x ∈ vars then qcr vars r else some p
def qbu (vars : List (List UInt8)) : List WordG → Option Nat
 | [] => none
 | w :: r => match qcr vars w.l with | some p => some p | none => qbu vars r
def qfa (st : List StageG) (op : List UInt8) (w : List WordG) : Except Flt (Int × List WordG) :=
 if op = qge then qoj st w
 else if op = qdy then
  if w.length = 3 ∧ ((nth w 2).flat = false ∨ qj9 (nth w 2).text = false) then .error (5, (nth w 2).at_) else .ok (-1, w.drop 1)
 else if op = wENV then
  if (nth w 1).flat = false ∨ qg4 (nth w 1).text = false then .error (5, (nth w 1).at_) else .ok (-1, w.drop 1)
 else .ok (-1, w.drop 1)
def qn0 (st : List StageG) : List (List UInt8) := match st.getLast? with | some x => x.vars | none => []
def q2u (st : List StageG) (vs : List (List UInt8)) (x : StepG) : List StageG :=
 match st.getLast? with | some y => st.dropLast ++ [⟨y.name, y.base, y.steps ++ [x], y.vars ++ vs⟩] | none => []
def qj7 (st : List StageG) (op : List UInt8) (w : List WordG) : Except Flt (List StageG) :=
 match qfa st op w with
 | .error f => .error f
 | .ok (k, l) =>
  match qbu (qn0 st) l with
  | some p => .error (7, p)
  | none => .ok (q2u st (if op = wENV then [(nth w 1).text] else []) ⟨op, l, k, (nth w 0).at_⟩)
def qfq (st : List StageG) (w : List WordG) : Except Flt (List StageG) :=
 match qbs (nth w 0).text with
 | none => .error (5, (nth w 0).at_)
 | some (low, high) =>
  if (st = [] ∧ (nth w 0).text ≠ qco) ∨ w.length < low + 1 ∨ high + 1 < w.length then .error (5, (nth w 0).at_)
  else if (nth w 0).text = qco then qmj st w
  else qj7 st (nth w 0).text w
def qd8 (s : List UInt8) (i : Nat) (st : List StageG) (steps : Nat) : Except Flt (List StageG) :=
 if i < s.length then
  match qbx s i [] with
  | .error p => .error (5, p)
  | .ok (w, n) =>
   if i < n then
    if w = [] then qd8 s n st steps
    else match qfq st w with
     | .error f => .error f
     | .ok st' => if 24 < steps + 1 then .error (10, (nth w 0).at_) else qd8 s n st' (steps + 1)
   else .error (0, 0)
 else if st = [] then .error (5, s.length) else .ok st
termination_by s.length - i
theorem qi0 {s : List UInt8} {i : Nat} {st : List StageG} {n : Nat} (h : s.length ≤ i) : qd8 s i st n = if st = [] then .error (5, s.length) else .ok st := by rw [qd8, if_neg (by omega)]
theorem qia {s : List UInt8} {i p : Nat} {st : List StageG} {n : Nat} (h : i < s.length) (v : qbx s i [] = .error p) : qd8 s i st n = .error (5, p) := by rw [qd8, if_pos h, v]
theorem qlu {s : List UInt8} {i k : Nat} {st : List StageG} {n : Nat} (h : i < s.length) (v : qbx s i [] = .ok ([], k)) : qd8 s i st n = qd8 s k st n := by
 conv => lhs; rw [qd8, if_pos h, v]
 simp only [(qf0 _ _ _ _ _ v).1, if_true]
theorem qp2 {s : List UInt8} {i k : Nat} {w : List WordG} {st : List StageG} {n : Nat} {f : Flt} (h : i < s.length) (v : qbx s i [] = .ok (w, k)) (hw : w ≠ []) (g : qfq st w = .error f) : qd8 s i st n = .error f := by
 rw [qd8, if_pos h, v];simp only [(qf0 _ _ _ _ _ v).1, if_true, hw, if_false, g]
theorem qr7 {s : List UInt8} {i k : Nat} {w : List WordG} {st st' : List StageG} {n : Nat} (h : i < s.length) (v : qbx s i [] = .ok (w, k)) (hw : w ≠ []) (g : qfq st w = .ok st') (hn : 24 < n + 1) : qd8 s i st n = .error (10, (nth w 0).at_) := by
 rw [qd8, if_pos h, v];simp only [(qf0 _ _ _ _ _ v).1, if_true, hw, if_false, g, hn]
theorem qr6 {s : List UInt8} {i k : Nat} {w : List WordG} {st st' : List StageG} {n : Nat} (h : i < s.length) (v : qbx s i [] = .ok (w, k)) (hw : w ≠ []) (g : qfq st w = .ok st') (hn : ¬ 24 < n + 1) : qd8 s i st n = qd8 s k st' (n + 1) := by
 conv => lhs; rw [qd8, if_pos h, v]
 simp only [(qf0 _ _ _ _ _ v).1, if_true, hw, if_false, g, hn]
def qjr (c : UInt8) : Bool := c == 10 || (32 ≤ c && c ≤ 126)
def qbk (s : List UInt8) : Except Flt (List StageG) :=
 if 1500 < s.length then .error (10, 1500)
 else match s.findIdx? (fun c => !qjr c) with
  | some k => .error (5, k)
  | none => qd8 s 0 [] 0
end Go.Proofs.YtikdblkfjchjbaaGreatDoor
