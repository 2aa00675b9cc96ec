/-
  The document's answer: faults; a variable in a word.
  The document's answer: what stands between quotes.
  Plain words on build files: equations of words; lines. No program in sight.
  Plain words on build files: instructions, stages, files. No program in sight.
  The document's answer: what stands between quotes: the walk.
-/
import Derived.Handy
import Derived.Test.YtflggoddfjmljaaGreatDoorY00
set_option linter.unusedVariables false
set_option linter.unusedSimpArgs false
namespace Go.Proofs.YtflggoddfjmljaaGreatDoor
open Go.RowKit

/-- a fault; an atom -/
def faultV (e a : Int) : Value := .agg #[.int .i64 e, .int .i64 a]
def Atm.agg : Atm → Value
  | .ch c => .agg #[.int .u8 c.toNat, .string (S []), .int .i64 0]
  | .var n p => .agg #[.int .u8 0, .string (S n), .int .i64 p]
theorem bad_any (e a : Int) (w : World) :
    Calls Tryz.prog 9 #[.int .i64 e, .int .i64 a] w fun r w' => r = .returned (faultV e a) ∧ Below w.heap.size w w' := by
  go_enter Tryz.func9, Tryz.ntmps9
  go_wp2
  go_returns
  exact ⟨rfl, (Below.refl _ _).alloc (Nat.le_refl _) _⟩
theorem fine_any (w : World) :
    Calls Tryz.prog 15 #[] w fun r w' => r = .returned (faultV 0 (-1)) ∧ Below w.heap.size w w' := by
  go_enter Tryz.func15, Tryz.ntmps15
  go_wp2
  go_returns
  exact ⟨rfl, (Below.refl _ _).alloc (Nat.le_refl _) _⟩

/-- what 'variable' answers -/
def varV : Option (List UInt8 × Nat) → Nat → Value
  | none, _ => .tuple #[(Atm.ch 0).agg, .int .i64 0]
  | some (x, n), i => .tuple #[(Atm.var x i).agg, .int .i64 n]

theorem var_ret {x : List UInt8} {i n : Nat} {a : Int} (h : a = n) : Ending.returned (.tuple #[.agg #[.int .u8 0, .string (S x), .int .i64 i], .int .i64 a]) = .returned (varV (some (x, n)) i) := by rw [h]; rfl

set_option maxRecDepth 20000 in
set_option maxHeartbeats 1000000 in
theorem variableR_any (s : List UInt8) (i : Nat) (w : World) (hs : s.length ≤ 4294967280) (hi : i < s.length) :
    Calls Tryz.prog 45 #[.string (S s), .int .i64 i] w fun r w' => r = .returned (varV (varB s i) i) ∧ Below w.heap.size w w' := by
  have hb : Below w.heap.size w w := Below.refl _ _
  by_cases ho : s[i + 1]? = some 123
  · obtain ⟨hl, hc⟩ := List.getElem?_eq_some_iff.1 ho
    have hc' : ((s[i + 1].toNat : Int) == 123) = true := by rw [hc]; rfl
    have X := Lib.hid (show varB s i = (let n := greatB (s.drop (i + 2)); if n = 0 ∨ 10 < n ∨ s[i + 2 + n]? ≠ some 125 then none else some ((s.drop (i + 2)).take n, n + 3)) by rw [varB, if_pos ho])
    have hg := greatB_le (s.drop (i + 2))
    simp only [List.length_drop] at hg
    generalize hN : greatB (s.drop (i + 2)) = n at *
    have HN := Lib.hid hN
    clear ho hN
    by_cases h0 : n = 0
    · have Y := Lib.hid (show varB s i = none by rw [X.out]; simp [h0])
      subst h0
      clear hc X
      go_enter Tryz.func45, Tryz.ntmps45
      go_wp2_with (go_at_call 48; refine (great_any (s.drop (i + 2)) _ (by unfold maxLen; simp; omega)).mono ?_; rintro e9 w9 ⟨rfl, rfl⟩; rw [HN.out])
      go_returns
      exact ⟨by rw [Y.out]; rfl, (Below.refl _ _).alloc (Nat.le_refl _) _⟩
    by_cases h1 : 10 < n
    · have Y := Lib.hid (show varB s i = none by rw [X.out]; simp [h1])
      have h00 : ((n : Int) == 0) = false := by rw [beq_eq_false_iff_ne]; omega
      clear hc X h0
      go_enter Tryz.func45, Tryz.ntmps45
      go_wp2_with (go_at_call 48; refine (great_any (s.drop (i + 2)) _ (by unfold maxLen; simp; omega)).mono ?_; rintro e9 w9 ⟨rfl, rfl⟩; rw [HN.out])
      go_returns
      exact ⟨by rw [Y.out]; rfl, (Below.refl _ _).alloc (Nat.le_refl _) _⟩
    have h00 : ((n : Int) == 0) = false := by rw [beq_eq_false_iff_ne]; omega
    have h11 : n ≤ 10 := by omega
    by_cases h2 : s[i + 2 + n]? = some 125
    · obtain ⟨hl2, hc2⟩ := List.getElem?_eq_some_iff.1 h2
      have hc2' : ((s[i + 2 + n].toNat : Int) != 125) = false := by rw [hc2]; rfl
      have Y := Lib.hid (show varB s i = some ((s.drop (i + 2)).take n, n + 3) by rw [X.out]; simp [h0, h2]; omega)
      clear hc X h0 hc2 h2 h1
      go_enter Tryz.func45, Tryz.ntmps45
      go_wp2_with (go_at_call 48; refine (great_any (s.drop (i + 2)) _ (by unfold maxLen; simp; omega)).mono ?_; rintro e9 w9 ⟨rfl, rfl⟩; rw [HN.out])
      go_returns
      exact ⟨by rw [Y.out]; exact var_ret (by omega), ((Below.refl _ _).alloc (Nat.le_refl _) _).alloc (by simp) _⟩
    · have Y := Lib.hid (show varB s i = none by rw [X.out]; simp [h2])
      clear hc X h0 h1
      by_cases hl2 : i + 2 + n < s.length
      · have hc2' : ((s[i + 2 + n].toNat : Int) != 125) = true := by
          rw [bne_iff_ne]; intro h; apply h2; rw [List.getElem?_eq_getElem hl2]; congr 1; exact u8_eq.2 h
        clear h2
        go_enter Tryz.func45, Tryz.ntmps45
        go_wp2_with (go_at_call 48; refine (great_any (s.drop (i + 2)) _ (by unfold maxLen; simp; omega)).mono ?_; rintro e9 w9 ⟨rfl, rfl⟩; rw [HN.out])
        go_returns
        exact ⟨by rw [Y.out]; rfl, (Below.refl _ _).alloc (Nat.le_refl _) _⟩
      · replace hl2 : s.length ≤ i + 2 + n := by omega
        clear h2
        go_enter Tryz.func45, Tryz.ntmps45
        go_wp2_with (go_at_call 48; refine (great_any (s.drop (i + 2)) _ (by unfold maxLen; simp; omega)).mono ?_; rintro e9 w9 ⟨rfl, rfl⟩; rw [HN.out])
        go_returns
        exact ⟨by rw [Y.out]; rfl, (Below.refl _ _).alloc (Nat.le_refl _) _⟩
  · have X := Lib.hid (show varB s i = (let n := greatB (s.drop (i + 1)); if n = 0 ∨ 10 < n then none else some ((s.drop (i + 1)).take n, n + 1)) by rw [varB, if_neg ho])
    have hg := greatB_le (s.drop (i + 1))
    simp only [List.length_drop] at hg
    generalize hN : greatB (s.drop (i + 1)) = n at *
    have HN := Lib.hid hN
    clear hN
    have H0 := Lib.hid (show (i + 1 < s.length ∧ ∃ h : i + 1 < s.length, ((s[i + 1].toNat : Int) == 123) = false) ∨ s.length ≤ i + 1 by
      by_cases hl : i + 1 < s.length
      · refine .inl ⟨hl, hl, ?_⟩
        rw [beq_eq_false_iff_ne]; intro h; apply ho; rw [List.getElem?_eq_getElem hl]; congr 1; exact u8_eq.2 h
      · exact .inr (by omega))
    clear ho
    by_cases hl0 : s.length ≤ i + 1
    · have h0 : n = 0 := by omega
      have Y := Lib.hid (show varB s i = none by rw [X.out]; simp [h0])
      subst h0
      clear X H0 HN hg
      go_enter Tryz.func45, Tryz.ntmps45
      go_wp2_with (go_at_call 48; refine (great_any [] _ (by unfold maxLen; simp)).mono ?_; rintro e9 w9 ⟨rfl, rfl⟩; rw [show greatB [] = 0 from rfl])
      go_returns
      exact ⟨by rw [Y.out]; rfl, (Below.refl _ _).alloc (Nat.le_refl _) _⟩
    · obtain ⟨hl, _, hc⟩ := H0.out.resolve_right hl0
      clear H0 hl0
      by_cases h0 : n = 0
      · have Y := Lib.hid (show varB s i = none by rw [X.out]; simp [h0])
        subst h0
        clear X
        go_enter Tryz.func45, Tryz.ntmps45
        go_wp2_with (go_at_call 48; refine (great_any (s.drop (i + 1)) _ (by unfold maxLen; simp; omega)).mono ?_; rintro e9 w9 ⟨rfl, rfl⟩; rw [HN.out])
        go_returns
        exact ⟨by rw [Y.out]; rfl, (Below.refl _ _).alloc (Nat.le_refl _) _⟩
      by_cases h1 : 10 < n
      · have Y := Lib.hid (show varB s i = none by rw [X.out]; simp [h1])
        have h00 : ((n : Int) == 0) = false := by rw [beq_eq_false_iff_ne]; omega
        clear X h0
        go_enter Tryz.func45, Tryz.ntmps45
        go_wp2_with (go_at_call 48; refine (great_any (s.drop (i + 1)) _ (by unfold maxLen; simp; omega)).mono ?_; rintro e9 w9 ⟨rfl, rfl⟩; rw [HN.out])
        go_returns
        exact ⟨by rw [Y.out]; rfl, (Below.refl _ _).alloc (Nat.le_refl _) _⟩
      have h00 : ((n : Int) == 0) = false := by rw [beq_eq_false_iff_ne]; omega
      have h11 : n ≤ 10 := by omega
      have Y := Lib.hid (show varB s i = some ((s.drop (i + 1)).take n, n + 1) by rw [X.out]; simp [h0]; omega)
      clear X h0 h1
      go_enter Tryz.func45, Tryz.ntmps45
      go_wp2_with (go_at_call 48; refine (great_any (s.drop (i + 1)) _ (by unfold maxLen; simp; omega)).mono ?_; rintro e9 w9 ⟨rfl, rfl⟩; rw [HN.out])
      go_returns
      exact ⟨by rw [Y.out]; exact var_ret (by omega), ((Below.refl _ _).alloc (Nat.le_refl _) _).alloc (by simp) _⟩
end Go.Proofs.YtflggoddfjmljaaGreatDoor
namespace Go.Proofs.YtflggoddfjmljaaGreatDoor
open Go.RowKit

def Atm.cells : Atm → List Value
  | .ch c => [.int .u8 c.toNat, .string (S []), .int .i64 0]
  | .var n p => [.int .u8 0, .string (S n), .int .i64 p]
/-- atoms, cell by cell -/
def atms : List Atm → List Value
  | [] => []
  | x :: r => x.cells ++ atms r
theorem atms_len (l : List Atm) : (atms l).length = l.length * 3 := by
  induction l with
  | nil => rfl
  | cons x r ih => simp only [atms, List.length_append, ih, List.length_cons]; cases x <;> simp [Atm.cells] <;> omega
theorem atms_app (l m : List Atm) : atms (l ++ m) = atms l ++ atms m := by
  induction l with
  | nil => rfl
  | cons e r ih => simp only [List.cons_append, atms, ih, List.append_assoc]
theorem atms_one (x : Atm) : atms [x] = x.cells := by simp [atms]
theorem cells3_new (w : World) (a b c : Value) (t : TypeId) : ∀ j u, [a, b, c][j]? = some u → (w.alloc (.cells #[a, b, c] t)).cell? ((⟨w.heap.size, 0, none⟩ : Addr).add j) = some u := by
  intro j u h
  match j, h with
  | 0, h => simp at h; subst h; simp [Addr.add]
  | 1, h => simp at h; subst h; simp [Addr.add]
  | 2, h => simp at h; subst h; simp [Addr.add]

theorem cells3_at (w : World) (a b c : Value) (t : TypeId) (B : Nat) (hB : w.heap.size = B) : ∀ j u, [a, b, c][j]? = some u → (w.alloc (.cells #[a, b, c] t)).cell? ((⟨B, 0, none⟩ : Addr).add j) = some u := by subst hB; exact cells3_new w a b c t

theorem Below.to {B : Nat} {w w' : World} (h : Below B w w') (B' : Nat) (hB : B' ≤ B) : Below B' w w' := h.mono hB
theorem ownsRow_below {w w' : World} {base : Nat} {e : TypeId} {size : Nat} {v : Value} {n : Nat} {xs : List Value} (h : w.ownsRow base e size v n xs) (hb : Below w.heap.size w w') : w'.ownsRow base e size v n xs := by
  obtain ⟨h1, h2⟩ := h
  refine ⟨h1, ?_⟩
  rcases h2 with h2 | ⟨g, cap, cur, hv, hg, hh, r⟩
  · exact .inl h2
  · exact .inr ⟨g, cap, cur, hv, hg, (hb.block g (Array.getElem?_eq_some_iff.1 hh).1).trans hh, r⟩
theorem ownsRow_base {w : World} {base base' : Nat} {e : TypeId} {size : Nat} {v : Value} {n : Nat} {xs : List Value} (h : w.ownsRow base e size v n xs) (hb : base' ≤ base) : w.ownsRow base' e size v n xs := by
  obtain ⟨h1, h2⟩ := h
  refine ⟨h1, ?_⟩
  rcases h2 with h2 | ⟨g, cap, cur, hv, hg, r⟩
  · exact .inl h2
  · exact .inr ⟨g, cap, cur, hv, Nat.le_trans hb hg, r⟩
theorem ownsRow_two {w : World} {base base' : Nat} {e : TypeId} {size : Nat} {v : Value} {n : Nat} {xs : List Value} (h : w.ownsRow base e size v n xs) {g : Nat} (hg : g < base) (u1 u2 : Value) (hb : base' ≤ base) :
    ((w.setCell ⟨g, 0, none⟩ u1).setCell ⟨g, 1, none⟩ u2).ownsRow base' e size v n xs :=
  ownsRow_base (ownsRow_setCell_below (ownsRow_setCell_below h hg u1) hg u2) hb
/-- a variable of a struct's two cells -/
def Blk2 (w : World) (g : Nat) (a b : Value) : Prop := ∃ t, w.heap[g]? = some (.cells #[a, b] t (0, 0))
theorem Blk2.facts {w : World} {g : Nat} {a b : Value} (h : Blk2 w g a b) : w.cell? ⟨g, 0, none⟩ = some a ∧ w.cell? ⟨g, 1, none⟩ = some b ∧ w.frozen? ⟨g, 0, none⟩ = false ∧ w.frozen? ⟨g, 1, none⟩ = false := by
  obtain ⟨t, h⟩ := h
  refine ⟨?_, ?_, frozen_of_row w g 0 _ t h, frozen_of_row w g 1 _ t h⟩
  · rw [cell_of_row w g 0 _ t (0, 0) h]; rfl
  · rw [cell_of_row w g 1 _ t (0, 0) h]; rfl
theorem Blk2.below {w w' : World} {g B : Nat} {a b : Value} (h : Blk2 w g a b) (hb : Below B w w') (hg : g < B) : Blk2 w' g a b := by
  obtain ⟨t, h⟩ := h
  exact ⟨t, (hb.block g hg).trans h⟩
theorem Blk2.lt {w : World} {g : Nat} {a b : Value} (h : Blk2 w g a b) : g < w.heap.size := by
  obtain ⟨t, h⟩ := h
  exact (Array.getElem?_eq_some_iff.1 h).1
theorem Blk2.grown {w w' : World} {g : Nat} {a b : Value} {row : Option Nat} (h : Blk2 w g a b) (hg : w.grownBy w' row) (hne : some g ≠ row) : Blk2 w' g a b := by
  have hl := h.lt
  obtain ⟨t, h⟩ := h
  exact ⟨t, (hg.block g hl hne).trans h⟩
theorem Blk2.set0 {w : World} {g : Nat} {a b : Value} (h : Blk2 w g a b) (u : Value) : Blk2 (w.setCell ⟨g, 0, none⟩ u) g u b := by
  obtain ⟨t, h⟩ := h
  exact ⟨t, by rw [heap_setCell_same w g _ _ t u h]; rfl⟩
theorem Blk2.set1 {w : World} {g : Nat} {a b : Value} (h : Blk2 w g a b) (u : Value) : Blk2 (w.setCell ⟨g, 1, none⟩ u) g a u := by
  obtain ⟨t, h⟩ := h
  exact ⟨t, by rw [heap_setCell_same w g _ _ t u h]; rfl⟩
theorem Blk2.far {w : World} {g g' o : Nat} {a b : Value} (h : Blk2 w g a b) (u : Value) (hne : g ≠ g') : Blk2 (w.setCell ⟨g', o, none⟩ u) g a b := by
  obtain ⟨t, h⟩ := h
  exact ⟨t, by rw [heap_setCell_other w _ g u hne]; exact h⟩
theorem Blk2.new (w : World) (a b : Value) (t : TypeId) : Blk2 (w.alloc (.cells #[a, b] t)) w.heap.size a b := ⟨t, heap_alloc_new w _⟩

/-- what 'quoted' answers -/
def quotedOut (w w' : World) (e : Ending) : Except Nat (List Atm × Nat) → Prop
  | .error p => e = .returned (.tuple #[.slice none 0 0, .int .i64 0, faultV 5 p])
  | .ok (l, n) => ∃ v, e = .returned (.tuple #[v, .int .i64 n, faultV 0 (-1)]) ∧ w'.ownsRow w.heap.size 75 3 v l.length (atms l)
theorem quotedOut_err {w w' : World} {e : Ending} {r : Except Nat (List Atm × Nat)} {p : Nat} (h : r = .error p) (he : e = .returned (.tuple #[.slice none 0 0, .int .i64 0, faultV 5 p])) : quotedOut w w' e r := by subst h; exact he

theorem quotedB_end {s : List UInt8} {q k : Nat} {acc : List Atm} (h : s.length ≤ k) : quotedB s q k acc = .error q := by rw [quotedB, dif_neg (by omega)]
theorem quotedB_nl {s : List UInt8} {q k : Nat} {acc : List Atm} (h : k < s.length) (c : s[k] = 10) : quotedB s q k acc = .error q := by rw [quotedB, dif_pos h, if_pos c]
theorem quotedB_shut {s : List UInt8} {q k : Nat} {acc : List Atm} (h : k < s.length) (c : s[k] = 34) : quotedB s q k acc = .ok (acc, k + 1) := by rw [quotedB, dif_pos h, if_neg (by rw [c]; decide), if_pos c]
theorem quotedB_var0 {s : List UInt8} {q k : Nat} {acc : List Atm} (h : k < s.length) (c : s[k] = 36) (v : varB s k = none) : quotedB s q k acc = .error k := by
  rw [quotedB, dif_pos h, if_neg (by rw [c]; decide), if_neg (by rw [c]; decide), if_pos c]
  split
  · rfl
  · rename_i h1; rw [v] at h1; cases h1
theorem quotedB_var {s : List UInt8} {q k : Nat} {acc : List Atm} {x : List UInt8} {n : Nat} (h : k < s.length) (c : s[k] = 36) (v : varB s k = some (x, n)) : quotedB s q k acc = quotedB s q (k + n) (acc ++ [.var x k]) := by
  conv => lhs; rw [quotedB, dif_pos h, if_neg (by rw [c]; decide), if_neg (by rw [c]; decide), if_pos c]
  split
  · rename_i h1; rw [v] at h1; cases h1
  · rename_i x' n' h1; rw [v] at h1; cases h1; rfl
theorem quotedB_esc {s : List UInt8} {q k : Nat} {acc : List Atm} (h : k + 1 < s.length) (c : s[k] = 92) (d : s[k + 1] = 34 ∨ s[k + 1] = 92 ∨ s[k + 1] = 36) : quotedB s q k acc = quotedB s q (k + 2) (acc ++ [.ch s[k + 1]]) := by
  conv => lhs; rw [quotedB, dif_pos (show k < s.length by omega), if_neg (by rw [c]; decide), if_neg (by rw [c]; decide), if_neg (by rw [c]; decide), if_pos c, dif_pos h, if_pos d]
theorem quotedB_esc0 {s : List UInt8} {q k : Nat} {acc : List Atm} (h : k < s.length) (c : s[k] = 92) (d : ∀ h1 : k + 1 < s.length, ¬ (s[k + 1] = 34 ∨ s[k + 1] = 92 ∨ s[k + 1] = 36)) : quotedB s q k acc = .error k := by
  rw [quotedB, dif_pos h, if_neg (by rw [c]; decide), if_neg (by rw [c]; decide), if_neg (by rw [c]; decide), if_pos c]
  split
  · rename_i h1; rw [if_neg (d h1)]
  · rfl
theorem quotedB_ch {s : List UInt8} {q k : Nat} {acc : List Atm} (h : k < s.length) (c1 : s[k] ≠ 10) (c2 : s[k] ≠ 34) (c3 : s[k] ≠ 36) (c4 : s[k] ≠ 92) : quotedB s q k acc = quotedB s q (k + 1) (acc ++ [.ch s[k]]) := by
  conv => lhs; rw [quotedB, dif_pos h, if_neg c1, if_neg c2, if_neg c3, if_neg c4]
theorem u8_ne {c d : UInt8} (h : c ≠ d) : ((c.toNat : Int) == (d.toNat : Int)) = false := by
  rw [beq_eq_false_iff_ne]; intro e; exact h (u8_eq.2 e)
theorem u8_ne' {c d : UInt8} (h : c ≠ d) : ((c.toNat : Int) != (d.toNat : Int)) = true := by
  rw [bne_iff_ne]; intro e; exact h (u8_eq.2 e)
end Go.Proofs.YtflggoddfjmljaaGreatDoor
namespace Go.Proofs.YtflggoddfjmljaaGreatDoor

theorem goesB_lt {s : List UInt8} {i : Nat} (h : goesB s i = true) : i + 1 < s.length ∧ s[i]? = some 92 ∧ s[i + 1]? = some 10 := by
  simp only [goesB, Bool.and_eq_true, beq_iff_eq] at h
  exact ⟨(List.getElem?_eq_some_iff.1 h.2).1, h.1, h.2⟩
theorem wordB_end {s : List UInt8} {i : Nat} {acc : List Atm} (h : s.length ≤ i) : wordB s i acc = .ok (acc, i) := by rw [wordB, dif_neg (by omega)]
theorem wordB_stop {s : List UInt8} {i : Nat} {acc : List Atm} (h : i < s.length) (c : s[i] = 10 ∨ goesB s i = true ∨ s[i] = 32) : wordB s i acc = .ok (acc, i) := by rw [wordB, dif_pos h, if_pos c]
theorem wordB_q0 {s : List UInt8} {i p : Nat} {acc : List Atm} (h : i < s.length) (c : s[i] = 34) (g : goesB s i = false) (v : quotedB s i (i + 1) [] = .error p) : wordB s i acc = .error p := by
  rw [wordB, dif_pos h, if_neg (by rw [c, g]; decide), if_pos c]
  split
  · rename_i h1; rw [v] at h1; cases h1; rfl
  · rename_i h1; rw [v] at h1; cases h1
theorem wordB_q {s : List UInt8} {i n : Nat} {acc l : List Atm} (h : i < s.length) (c : s[i] = 34) (g : goesB s i = false) (v : quotedB s i (i + 1) [] = .ok (l, n)) : wordB s i acc = wordB s n (acc ++ l) := by
  conv => lhs; rw [wordB, dif_pos h, if_neg (by rw [c, g]; decide), if_pos c]
  split
  · rename_i h1; rw [v] at h1; cases h1
  · rename_i h1; rw [v] at h1; cases h1; rfl
theorem wordB_var0 {s : List UInt8} {i : Nat} {acc : List Atm} (h : i < s.length) (c : s[i] = 36) (g : goesB s i = false) (v : varB s i = none) : wordB s i acc = .error i := by
  rw [wordB, dif_pos h, if_neg (by rw [c, g]; decide), if_neg (by rw [c]; decide), if_pos c]
  split
  · rfl
  · rename_i h1; rw [v] at h1; cases h1
theorem wordB_var {s : List UInt8} {i n : Nat} {acc : List Atm} {x : List UInt8} (h : i < s.length) (c : s[i] = 36) (g : goesB s i = false) (v : varB s i = some (x, n)) : wordB s i acc = wordB s (i + n) (acc ++ [.var x i]) := by
  conv => lhs; rw [wordB, dif_pos h, if_neg (by rw [c, g]; decide), if_neg (by rw [c]; decide), if_pos c]
  split
  · rename_i h1; rw [v] at h1; cases h1
  · rename_i h1; rw [v] at h1; cases h1; rfl
theorem wordB_esc {s : List UInt8} {i : Nat} {acc : List Atm} (h : i + 1 < s.length) (c : s[i] = 92) (g : goesB s i = false) : wordB s i acc = wordB s (i + 2) (acc ++ [.ch s[i + 1]]) := by
  conv => lhs; rw [wordB, dif_pos (show i < s.length by omega), if_neg (by rw [c, g]; decide), if_neg (by rw [c]; decide), if_neg (by rw [c]; decide), if_pos c, dif_pos h]
theorem wordB_esc0 {s : List UInt8} {i : Nat} {acc : List Atm} (h : i < s.length) (c : s[i] = 92) (g : goesB s i = false) (hl : s.length ≤ i + 1) : wordB s i acc = .error i := by
  rw [wordB, dif_pos h, if_neg (by rw [c, g]; decide), if_neg (by rw [c]; decide), if_neg (by rw [c]; decide), if_pos c, dif_neg (by omega)]
theorem wordB_ch {s : List UInt8} {i : Nat} {acc : List Atm} (h : i < s.length) (c1 : s[i] ≠ 10) (c0 : s[i] ≠ 32) (g : goesB s i = false) (c2 : s[i] ≠ 34) (c3 : s[i] ≠ 36) (c4 : s[i] ≠ 92) : wordB s i acc = wordB s (i + 1) (acc ++ [.ch s[i]]) := by
  conv => lhs; rw [wordB, dif_pos h, if_neg (by rw [g]; simp [c1, c0]), if_neg c2, if_neg c3, if_neg c4]

theorem wordB_le (s : List UInt8) (i : Nat) (acc l : List Atm) (n : Nat) (h : wordB s i acc = .ok (l, n)) (hi : i ≤ s.length) : i ≤ n ∧ n ≤ s.length ∧ l.length + i ≤ n + acc.length := by
  induction hm : s.length - i using Nat.strongRecOn generalizing i acc with
  | ind m ih =>
    rw [wordB] at h
    split at h
    · split at h
      · simp only [Except.ok.injEq, Prod.mk.injEq] at h; obtain ⟨rfl, rfl⟩ := h; omega
      · split at h
        · split at h
          · cases h
          · rename_i l' n' hq
            have := quotedB_le _ _ _ _ _ _ hq
            have := ih (s.length - n') (by omega) _ _ h (by omega) rfl
            simp at this ⊢; simp at *; omega
        · split at h
          · split at h
            · cases h
            · rename_i x n' hv
              obtain ⟨v1, v2, v3, v4⟩ := varB_pos hv
              have := ih (s.length - (i + n')) (by omega) _ _ h (by omega) rfl
              simp at this; omega
          · split at h
            · split at h
              · have := ih (s.length - (i + 2)) (by omega) _ _ h (by omega) rfl
                simp at this; omega
              · cases h
            · have := ih (s.length - (i + 1)) (by omega) _ _ h (by omega) rfl
              simp at this; omega
    · cases h; omega

theorem wordB_moves (s : List UInt8) (i : Nat) (acc l : List Atm) (n : Nat) (h : wordB s i acc = .ok (l, n)) (hi : i < s.length) (c1 : s[i] ≠ 10) (c0 : s[i] ≠ 32) (g : goesB s i = false) : i < n := by
  rw [wordB, dif_pos hi, if_neg (by rw [g]; simp [c1, c0])] at h
  split at h
  · split at h
    · cases h
    · rename_i l' n' hq
      have := quotedB_le _ _ _ _ _ _ hq
      have := wordB_le _ _ _ _ _ h (by omega)
      omega
  · split at h
    · split at h
      · cases h
      · rename_i x n' hv
        obtain ⟨v1, v2, v3, v4⟩ := varB_pos hv
        have := wordB_le _ _ _ _ _ h (by omega)
        omega
    · split at h
      · split at h
        · have := wordB_le _ _ _ _ _ h (by omega); omega
        · cases h
      · have := wordB_le _ _ _ _ _ h (by omega); omega

theorem stopsB_false {s : List UInt8} {i : Nat} (h : stopsB s i = false) : ∃ hi : i < s.length, s[i] ≠ 10 := by
  unfold stopsB at h
  split at h
  · cases h
  · rename_i c hc
    obtain ⟨h1, h2⟩ := List.getElem?_eq_some_iff.1 hc
    exact ⟨h1, by rw [h2]; simpa using h⟩
/-- where a comment ends -/
def commentB (s : List UInt8) (i : Nat) : Nat := if h : stopsB s i = true then i else commentB s (i + 1)
termination_by s.length - i
decreasing_by
  have := stopsB_false (i := i) (s := s) (by simpa using h)
  obtain ⟨h1, _⟩ := this
  omega
theorem commentB_stop {s : List UInt8} {i : Nat} (h : stopsB s i = true) : commentB s i = i := by rw [commentB, dif_pos h]
theorem commentB_on {s : List UInt8} {i : Nat} (h : stopsB s i = false) : commentB s i = commentB s (i + 1) := by
  conv => lhs; rw [commentB, dif_neg (by simp [h])]
theorem commentB_le (s : List UInt8) (i : Nat) (hi : i ≤ s.length) : i ≤ commentB s i ∧ commentB s i ≤ s.length ∧ stopsB s (commentB s i) = true := by
  induction hm : s.length - i using Nat.strongRecOn generalizing i with
  | ind m ih =>
    cases h : stopsB s i with
    | true => rw [commentB_stop h]; exact ⟨Nat.le_refl _, hi, h⟩
    | false =>
      rw [commentB_on h]
      obtain ⟨h1, _⟩ := stopsB_false h
      have := ih (s.length - (i + 1)) (by omega) (i + 1) (by omega) rfl
      exact ⟨by omega, this.2.1, this.2.2⟩

/-- a word: its atoms, its place -/
structure WordG where
  l : List Atm
  at_ : Nat
  deriving DecidableEq

/-- a line from i on: its words behind acc, and where the next one begins -/
def lineB (s : List UInt8) (i : Nat) (acc : List WordG) : Except Nat (List WordG × Nat) :=
  if h : stopsB s i = true then .ok (acc, i + 1)
  else if goesB s i = true then lineB s (i + 2) acc
  else if s[i]? = some 32 then lineB s (i + 1) acc
  else if s[i]? = some 35 ∧ acc = [] then .ok (acc, commentB s i + 1)
  else match wordB s i [] with
    | .error p => .error p
    | .ok (l, n) => if i < n then lineB s n (acc ++ [⟨l, i⟩]) else .error i
termination_by s.length - i
decreasing_by
  all_goals
    have := stopsB_false (i := i) (s := s) (by simpa using h)
    obtain ⟨h1, _⟩ := this
    omega
theorem lineB_stop {s : List UInt8} {i : Nat} {acc : List WordG} (h : stopsB s i = true) : lineB s i acc = .ok (acc, i + 1) := by rw [lineB, dif_pos h]
theorem lineB_goes {s : List UInt8} {i : Nat} {acc : List WordG} (h : stopsB s i = false) (g : goesB s i = true) : lineB s i acc = lineB s (i + 2) acc := by
  conv => lhs; rw [lineB, dif_neg (by simp [h]), if_pos g]
theorem lineB_blank {s : List UInt8} {i : Nat} {acc : List WordG} (h : stopsB s i = false) (g : goesB s i = false) (c : s[i]? = some 32) : lineB s i acc = lineB s (i + 1) acc := by
  conv => lhs; rw [lineB, dif_neg (by simp [h]), if_neg (by simp [g]), if_pos c]
theorem lineB_comment {s : List UInt8} {i : Nat} (h : stopsB s i = false) (g : goesB s i = false) (c : s[i]? = some 35) : lineB s i [] = .ok ([], commentB s i + 1) := by
  rw [lineB, dif_neg (by simp [h]), if_neg (by simp [g]), if_neg (by rw [c]; decide), if_pos ⟨c, rfl⟩]
theorem lineB_word0 {s : List UInt8} {i p : Nat} {acc : List WordG} (h : stopsB s i = false) (g : goesB s i = false) (c : s[i]? ≠ some 32) (d : ¬ (s[i]? = some 35 ∧ acc = [])) (v : wordB s i [] = .error p) : lineB s i acc = .error p := by
  rw [lineB, dif_neg (by simp [h]), if_neg (by simp [g]), if_neg c, if_neg d, v]
theorem lineB_word {s : List UInt8} {i n : Nat} {acc : List WordG} {l : List Atm} (h : stopsB s i = false) (g : goesB s i = false) (c : s[i]? ≠ some 32) (d : ¬ (s[i]? = some 35 ∧ acc = [])) (v : wordB s i [] = .ok (l, n)) : lineB s i acc = lineB s n (acc ++ [⟨l, i⟩]) := by
  obtain ⟨hi, n10⟩ := stopsB_false h
  have := wordB_moves s i [] l n v hi n10 (by intro e; apply c; rw [List.getElem?_eq_getElem hi, e]) g
  conv => lhs; rw [lineB, dif_neg (by simp [h]), if_neg (by simp [g]), if_neg c, if_neg d, v]
  simp only [this, if_true]

theorem lineB_le (s : List UInt8) (i : Nat) (acc l : List WordG) (n : Nat) (h : lineB s i acc = .ok (l, n)) : i < n ∧ (i ≤ s.length → n ≤ s.length + 1 ∧ l.length + i ≤ n + acc.length) := by
  induction hm : s.length - i using Nat.strongRecOn generalizing i acc with
  | ind m ih =>
    cases hs : stopsB s i with
    | true => rw [lineB_stop hs] at h; cases h; omega
    | false =>
      obtain ⟨hi, n10⟩ := stopsB_false hs
      cases hg : goesB s i with
      | true =>
        obtain ⟨hg1, _⟩ := goesB_lt hg
        rw [lineB_goes hs hg] at h
        have := ih (s.length - (i + 2)) (by omega) _ _ h rfl
        omega
      | false =>
        by_cases c : s[i]? = some 32
        · rw [lineB_blank hs hg c] at h
          have := ih (s.length - (i + 1)) (by omega) _ _ h rfl
          omega
        · by_cases d : s[i]? = some 35 ∧ acc = []
          · obtain ⟨d1, rfl⟩ := d
            rw [lineB_comment hs hg d1] at h
            have := commentB_le s i (by omega)
            cases h
            simp; omega
          · cases hw : wordB s i [] with
            | error p => rw [lineB_word0 hs hg c d hw] at h; cases h
            | ok ln =>
              obtain ⟨l', n'⟩ := ln
              have h1 := wordB_le _ _ _ _ _ hw (by omega)
              have h2 := wordB_moves s i [] l' n' hw hi n10 (by intro e; apply c; rw [List.getElem?_eq_getElem hi, e]) hg
              rw [lineB_word hs hg c d hw] at h
              have := ih (s.length - n') (by omega) _ _ h rfl
              simp at this; omega
end Go.Proofs.YtflggoddfjmljaaGreatDoor
namespace Go.Proofs.YtflggoddfjmljaaGreatDoor

/-- variables have names -/
def GoodA (l : List Atm) : Prop := ∀ x p, Atm.var x p ∈ l → x ≠ [] ∧ x.length ≤ 10
theorem GoodA.nil : GoodA [] := fun _ _ h => by cases h
theorem GoodA.app {l m : List Atm} (h : GoodA l) (k : GoodA m) : GoodA (l ++ m) := fun x p hx => by
  rcases List.mem_append.1 hx with hx | hx
  · exact h x p hx
  · exact k x p hx
theorem GoodA.ch (c : UInt8) : GoodA [.ch c] := fun x p hx => by simp at hx
theorem GoodA.var {x : List UInt8} {p : Nat} (h : x ≠ [] ∧ x.length ≤ 10) : GoodA [.var x p] := fun y q hy => by
  simp at hy; rw [hy.1]; exact h
theorem quotedB_good (s : List UInt8) (q k : Nat) (acc l : List Atm) (n : Nat) (h : quotedB s q k acc = .ok (l, n)) (g : GoodA acc) : GoodA l := by
  induction hm : s.length - k using Nat.strongRecOn generalizing k acc with
  | ind m ih =>
    rw [quotedB] at h
    split at h
    · split at h
      · cases h
      · split at h
        · simp only [Except.ok.injEq, Prod.mk.injEq] at h; obtain ⟨rfl, rfl⟩ := h; exact g
        · split at h
          · split at h
            · cases h
            · rename_i x n' hv
              obtain ⟨v1, v2, v3, v4⟩ := varB_pos hv
              exact ih (s.length - (k + n')) (by omega) _ _ h (g.app (GoodA.var ⟨v3, v4⟩)) rfl
          · split at h
            · split at h
              · split at h
                · exact ih (s.length - (k + 2)) (by omega) _ _ h (g.app (GoodA.ch _)) rfl
                · cases h
              · cases h
            · exact ih (s.length - (k + 1)) (by omega) _ _ h (g.app (GoodA.ch _)) rfl
    · cases h
theorem wordB_good (s : List UInt8) (i : Nat) (acc l : List Atm) (n : Nat) (h : wordB s i acc = .ok (l, n)) (g : GoodA acc) : GoodA l := by
  induction hm : s.length - i using Nat.strongRecOn generalizing i acc with
  | ind m ih =>
    rw [wordB] at h
    split at h
    · split at h
      · simp only [Except.ok.injEq, Prod.mk.injEq] at h; obtain ⟨rfl, rfl⟩ := h; exact g
      · split at h
        · split at h
          · cases h
          · rename_i l' n' hq
            have := quotedB_le _ _ _ _ _ _ hq
            exact ih (s.length - n') (by omega) _ _ h (g.app (quotedB_good _ _ _ _ _ _ hq GoodA.nil)) rfl
        · split at h
          · split at h
            · cases h
            · rename_i x n' hv
              obtain ⟨v1, v2, v3, v4⟩ := varB_pos hv
              exact ih (s.length - (i + n')) (by omega) _ _ h (g.app (GoodA.var ⟨v3, v4⟩)) rfl
          · split at h
            · split at h
              · exact ih (s.length - (i + 2)) (by omega) _ _ h (g.app (GoodA.ch _)) rfl
              · cases h
            · exact ih (s.length - (i + 1)) (by omega) _ _ h (g.app (GoodA.ch _)) rfl
    · cases h; exact g

def GoodL (s : List UInt8) (ws : List WordG) : Prop := ∀ x ∈ ws, GoodA x.l ∧ x.l.length ≤ s.length ∧ x.at_ ≤ s.length
theorem lineB_good (s : List UInt8) (i : Nat) (acc l : List WordG) (n : Nat) (h : lineB s i acc = .ok (l, n)) (g : GoodL s acc) : GoodL s l := by
  induction hm : s.length - i using Nat.strongRecOn generalizing i acc with
  | ind m ih =>
    cases hs : stopsB s i with
    | true => rw [lineB_stop hs] at h; cases h; exact g
    | false =>
      obtain ⟨hi, n10⟩ := stopsB_false hs
      cases hg : goesB s i with
      | true =>
        obtain ⟨hg1, _⟩ := goesB_lt hg
        rw [lineB_goes hs hg] at h
        exact ih (s.length - (i + 2)) (by omega) _ _ h g rfl
      | false =>
        by_cases c : s[i]? = some 32
        · rw [lineB_blank hs hg c] at h
          exact ih (s.length - (i + 1)) (by omega) _ _ h g rfl
        · by_cases d : s[i]? = some 35 ∧ acc = []
          · obtain ⟨d1, rfl⟩ := d
            rw [lineB_comment hs hg d1] at h
            cases h
            exact g
          · cases hw : wordB s i [] with
            | error p => rw [lineB_word0 hs hg c d hw] at h; cases h
            | ok ln =>
              obtain ⟨l', n'⟩ := ln
              have h1 := wordB_le _ _ _ _ _ hw (by omega)
              have h2 := wordB_moves s i [] l' n' hw hi n10 (by intro e; apply c; rw [List.getElem?_eq_getElem hi, e]) hg
              rw [lineB_word hs hg c d hw] at h
              refine ih (s.length - n') (by omega) _ _ h ?_ rfl
              intro x hx
              rcases List.mem_append.1 hx with hx | hx
              · exact g x hx
              · simp at hx h1; subst hx; exact ⟨wordB_good _ _ _ _ _ hw GoodA.nil, by simp; omega, by simp; omega⟩

/-- a word's text (empty where it has variables), and whether it has none -/
def plainA : List Atm → List UInt8 → List UInt8 × Bool
  | [], acc => (acc, true)
  | .ch c :: r, acc => plainA r (acc ++ [c])
  | .var _ _ :: _, _ => ([], false)
def WordG.text (w : WordG) : List UInt8 := (plainA w.l []).1
def WordG.flat (w : WordG) : Bool := (plainA w.l []).2
theorem plainA_len (l : List Atm) (acc : List UInt8) : (plainA l acc).1.length ≤ l.length + acc.length := by
  induction l generalizing acc with
  | nil => simp [plainA]
  | cons x r ih =>
    cases x with
    | ch c => rw [plainA]; have := ih (acc ++ [c]); simp at this ⊢; omega
    | var n p => simp [plainA]

structure StepG where
  op : List UInt8
  words : List WordG
  stage : Int
  at_ : Nat
  deriving DecidableEq
structure StageG where
  name : List UInt8
  base : Int
  steps : List StepG
  vars : List (List UInt8)
  deriving DecidableEq

def smallC (c : UInt8) : Bool := 97 ≤ c && c ≤ 122
def digitC (c : UInt8) : Bool := 48 ≤ c && c ≤ 57
theorem smallC_iff (c : UInt8) : smallC c = true ↔ 97 ≤ (c.toNat : Int) ∧ (c.toNat : Int) ≤ 122 := by
  simp only [smallC, Bool.and_eq_true, decide_eq_true_eq, UInt8.le_iff_toNat_le]; simp; omega
theorem digitC_iff (c : UInt8) : digitC c = true ↔ 48 ≤ (c.toNat : Int) ∧ (c.toNat : Int) ≤ 57 := by
  simp only [digitC, Bool.and_eq_true, decide_eq_true_eq, UInt8.le_iff_toNat_le]; simp; omega
/-- may the byte at j of a stage's name stand there -/
def okS (s : List UInt8) (j : Nat) : Bool := match s[j]? with | none => true | some c => smallC c || (digitC c && decide (j ≠ 0))
def stageB (s : List UInt8) : Bool := (List.range s.length).all (okS s) && !s.isEmpty && decide (s.length ≤ 10)
def calledB (l : List StageG) (name : List UInt8) : Int :=
  match l.findIdx? (fun x => x.name == name) with | some k => k | none => -1

def wFROM : List UInt8 := [70, 82, 79, 77]
def wCOPY : List UInt8 := [67, 79, 80, 89]
def wADD : List UInt8 := [65, 68, 68]
def wLINK : List UInt8 := [76, 73, 78, 75]
def wENV : List UInt8 := [69, 78, 86]
def wRM : List UInt8 := [82, 77]
def wWORKDIR : List UInt8 := [87, 79, 82, 75, 68, 73, 82]
def wMKDIR : List UInt8 := [77, 75, 68, 73, 82]
def wAS : List UInt8 := [65, 83]
def wSCRATCH : List UInt8 := [115, 99, 114, 97, 116, 99, 104]
def wFLAG : List UInt8 := [45, 45, 102, 114, 111, 109, 61]

/-- how many words may stand behind an instruction's own -/
def boundsB (op : List UInt8) : Option (Nat × Nat) :=
  if op = wFROM then some (1, 3) else if op = wCOPY then some (2, 3)
  else if op = wADD then some (2, 2) else if op = wLINK then some (2, 2) else if op = wENV then some (2, 2)
  else if op = wRM then some (1, 1) else if op = wWORKDIR then some (1, 1)
  else if op = wMKDIR then some (1, 2) else none

def nth (w : List WordG) (k : Nat) : WordG := w.getD k ⟨[], 0⟩
theorem nth_eq {w : List WordG} {k : Nat} (h : k < w.length) : nth w k = w[k] := by simp [nth, h]

abbrev Flt := Nat × Nat

def varsOf (st : List StageG) (k : Int) : List (List UInt8) := if 0 ≤ k then (match st[k.toNat]? with | some x => x.vars | none => []) else []
/-- of a FROM: its name ([]: it has none), or its fault -/
def nameB (w : List WordG) : Except Flt (List UInt8) :=
  if w.length = 3 ∨ w.length = 4 then
    if (nth w 2).text ≠ wAS then .error (5, (nth w 2).at_)
    else if w.length = 3 then .error (5, (nth w 0).at_)
    else if stageB (nth w 3).text = false then .error (5, (nth w 3).at_)
    else .ok (nth w 3).text
  else .ok []
def fromB (st : List StageG) (w : List WordG) : Except Flt (List StageG) :=
  match nameB w with
  | .error f => .error f
  | .ok name =>
    if stageB (nth w 1).text = false then .error (5, (nth w 1).at_)
    else if calledB st (nth w 1).text < 0 ∧ (nth w 1).text ≠ wSCRATCH then .error (6, (nth w 1).at_)
    else if name ≠ [] ∧ (name = wSCRATCH ∨ 0 ≤ calledB st name) then .error (6, (nth w 3).at_)
    else if st.length = 5 then .error (10, (nth w 0).at_)
    else .ok (st ++ [⟨name, calledB st (nth w 1).text, [], varsOf st (calledB st (nth w 1).text)⟩])

def flagB (w : WordG) : Bool := wFLAG.isPrefixOf w.text && w.flat
/-- of a COPY: its stage and its words, or its fault -/
def takenB (st : List StageG) (w : List WordG) : Except Flt (Int × List WordG) :=
  if flagB (nth w 1) ≠ decide (w.length = 4) then .error (5, (nth w 0).at_)
  else if flagB (nth w 1) = false then .ok (-1, w.drop 1)
  else if stageB ((nth w 1).text.drop 7) = false then .error (5, (nth w 1).at_)
  else if calledB st ((nth w 1).text.drop 7) < 0 ∨ calledB st ((nth w 1).text.drop 7) = (st.length : Int) - 1 then .error (6, (nth w 1).at_)
  else .ok (calledB st ((nth w 1).text.drop 7), w.drop 2)

def octC (c : UInt8) : Bool := 48 ≤ c && c ≤ 55
def modeB (s : List UInt8) : Bool := decide (s.length = 3) && s.all octC

/-- the place of the first variable of a word that is not set -/
def unsetA (vars : List (List UInt8)) : List Atm → Option Nat
  | [] => none
  | .ch _ :: r => unsetA vars r
  | .var x p :: r => if x ∈ vars then unsetA vars r else some p
def unsetB (vars : List (List UInt8)) : List WordG → Option Nat
  | [] => none
  | w :: r => match unsetA vars w.l with | some p => some p | none => unsetB vars r

/-- what an instruction asks besides: its stage and its words, or its fault -/
def looksB (st : List StageG) (op : List UInt8) (w : List WordG) : Except Flt (Int × List WordG) :=
  if op = wCOPY then takenB st w
  else if op = wMKDIR then
    if w.length = 3 ∧ ((nth w 2).flat = false ∨ modeB (nth w 2).text = false) then .error (5, (nth w 2).at_) else .ok (-1, w.drop 1)
  else if op = wENV then
    if (nth w 1).flat = false ∨ isVarB (nth w 1).text = false then .error (5, (nth w 1).at_) else .ok (-1, w.drop 1)
  else .ok (-1, w.drop 1)
def lastVars (st : List StageG) : List (List UInt8) := match st.getLast? with | some x => x.vars | none => []
/-- the last stage with a step more, and with a variable more -/
def pushB (st : List StageG) (vs : List (List UInt8)) (x : StepG) : List StageG :=
  match st.getLast? with | some y => st.dropLast ++ [⟨y.name, y.base, y.steps ++ [x], y.vars ++ vs⟩] | none => []
def stepB (st : List StageG) (op : List UInt8) (w : List WordG) : Except Flt (List StageG) :=
  match looksB st op w with
  | .error f => .error f
  | .ok (k, l) =>
    match unsetB (lastVars st) l with
    | some p => .error (7, p)
    | none => .ok (pushB st (if op = wENV then [(nth w 1).text] else []) ⟨op, l, k, (nth w 0).at_⟩)

/-- a line of words: the stages with it -/
def instrB (st : List StageG) (w : List WordG) : Except Flt (List StageG) :=
  match boundsB (nth w 0).text with
  | none => .error (5, (nth w 0).at_)
  | some (low, high) =>
    if (st = [] ∧ (nth w 0).text ≠ wFROM) ∨ w.length < low + 1 ∨ high + 1 < w.length then .error (5, (nth w 0).at_)
    else if (nth w 0).text = wFROM then fromB st w
    else stepB st (nth w 0).text w

/-- from a place on: the stages, or the first fault -/
def fileB (s : List UInt8) (i : Nat) (st : List StageG) (steps : Nat) : Except Flt (List StageG) :=
  if i < s.length then
    match lineB s i [] with
    | .error p => .error (5, p)
    | .ok (w, n) =>
      if i < n then
        if w = [] then fileB s n st steps
        else match instrB st w with
          | .error f => .error f
          | .ok st' => if 24 < steps + 1 then .error (10, (nth w 0).at_) else fileB s n st' (steps + 1)
      else .error (0, 0)
  else if st = [] then .error (5, s.length) else .ok st
termination_by s.length - i
theorem fileB_end {s : List UInt8} {i : Nat} {st : List StageG} {n : Nat} (h : s.length ≤ i) : fileB s i st n = if st = [] then .error (5, s.length) else .ok st := by rw [fileB, if_neg (by omega)]
theorem fileB_line0 {s : List UInt8} {i p : Nat} {st : List StageG} {n : Nat} (h : i < s.length) (v : lineB s i [] = .error p) : fileB s i st n = .error (5, p) := by rw [fileB, if_pos h, v]
theorem fileB_nil {s : List UInt8} {i k : Nat} {st : List StageG} {n : Nat} (h : i < s.length) (v : lineB s i [] = .ok ([], k)) : fileB s i st n = fileB s k st n := by
  conv => lhs; rw [fileB, if_pos h, v]
  simp only [(lineB_le _ _ _ _ _ v).1, if_true]
theorem fileB_instr0 {s : List UInt8} {i k : Nat} {w : List WordG} {st : List StageG} {n : Nat} {f : Flt} (h : i < s.length) (v : lineB s i [] = .ok (w, k)) (hw : w ≠ []) (g : instrB st w = .error f) : fileB s i st n = .error f := by
  rw [fileB, if_pos h, v]
  simp only [(lineB_le _ _ _ _ _ v).1, if_true, hw, if_false, g]
theorem fileB_bound {s : List UInt8} {i k : Nat} {w : List WordG} {st st' : List StageG} {n : Nat} (h : i < s.length) (v : lineB s i [] = .ok (w, k)) (hw : w ≠ []) (g : instrB st w = .ok st') (hn : 24 < n + 1) : fileB s i st n = .error (10, (nth w 0).at_) := by
  rw [fileB, if_pos h, v]
  simp only [(lineB_le _ _ _ _ _ v).1, if_true, hw, if_false, g, hn]
theorem fileB_instr {s : List UInt8} {i k : Nat} {w : List WordG} {st st' : List StageG} {n : Nat} (h : i < s.length) (v : lineB s i [] = .ok (w, k)) (hw : w ≠ []) (g : instrB st w = .ok st') (hn : ¬ 24 < n + 1) : fileB s i st n = fileB s k st' (n + 1) := by
  conv => lhs; rw [fileB, if_pos h, v]
  simp only [(lineB_le _ _ _ _ _ v).1, if_true, hw, if_false, g, hn]

def byteB (c : UInt8) : Bool := c == 10 || (32 ≤ c && c ≤ 126)
/-- a text: its stages, or its first fault -/
def parseB (s : List UInt8) : Except Flt (List StageG) :=
  if 1500 < s.length then .error (10, 1500)
  else match s.findIdx? (fun c => !byteB c) with
    | some k => .error (5, k)
    | none => fileB s 0 [] 0
end Go.Proofs.YtflggoddfjmljaaGreatDoor
namespace Go.Proofs.YtflggoddfjmljaaGreatDoor
open Go.RowKit

theorem stopsB_lt {s : List UInt8} {k : Nat} (h : k < s.length) : stopsB s k = (s[k] == 10) := by simp [stopsB, h]
set_option maxRecDepth 100000 in
set_option maxHeartbeats 4000000 in
theorem quotedR_any (s : List UInt8) (q : Nat) (w : World) (hs : s.length ≤ 2000000000) (hq : q < s.length) :
    Calls Tryz.prog 44 #[.string (S s), .int .i64 q] w fun e w' => quotedOut w w' e (quotedB s q (q + 1) []) ∧ Below w.heap.size w w' := by
  obtain ⟨i0, hi, hz0, hz1, hz2⟩ := info_parts (show (Tryz.prog.info? 75).map (fun i => (i.zero, i.size, i.bytes)) = some (some (.agg #[.int .u8 0, .string ByteArray.empty, .int .i64 0]), 3, 32) by kernel_rfl)
  go_enter Tryz.func44, Tryz.ntmps44
  go_wp2
  have P := Lib.hid (Blk2.new w (.int .i64 0) (.int .i64 0) 27)
  have hsz : (w.alloc (.cells #[.int .i64 0, .int .i64 0] 27)).heap.size = w.heap.size + 1 := by simp
  have hbw : Below w.heap.size w (w.alloc (.cells #[.int .i64 0, .int .i64 0] 27)) := (Below.refl _ _).alloc (Nat.le_refl _) _
  generalize hW : w.alloc (.cells #[.int .i64 0, .int .i64 0] 27) = w1 at *
  clear hW
  go_loopw [7, 8] (fun v i wr => ∃ (acc : List Atm) (k : Nat), i = .int .i64 k ∧ q < k ∧ k ≤ s.length ∧ acc.length ≤ k ∧ Hid (quotedB s q (q + 1) [] = quotedB s q k acc) ∧
      wr.ownsRow w1.heap.size 75 3 v acc.length (atms acc) ∧ Below w1.heap.size w1 wr) (fun _ i _ => s.length - (intOf i).toNat)
  case atStart => exact ⟨[], q + 1, by go_num, by omega, by omega, by simp, rfl, World.ownsRow_nil _ _ _ _, Below.refl _ _⟩
  case round =>
    obtain ⟨acc, k, rfl, hqk, hk, hal, HQ, hown, hbel⟩ := hrel
    have PR := Lib.hid (P.out.below hbel (by omega))
    have hszr := hbel.size
    clear P
    by_cases hstop : stopsB s k = true
    · have Y := Lib.hid (show quotedB s q (q + 1) [] = .error q by
        rw [HQ.out]
        by_cases h : k < s.length
        · exact quotedB_nl h (by rw [stopsB_lt h] at hstop; simpa using hstop)
        · exact quotedB_end (by omega))
      have HS := Lib.hid hstop
      clear hstop HQ
      go_wp2_with (first
        | (go_at_call 22; refine (stops_any s k _ (by unfold maxLen; omega)).mono ?_; rintro e9 w9 ⟨rfl, rfl⟩; rw [HS.out])
        | (go_at_call 9; refine (bad_any 5 q _).mono ?_; rintro e8 w8 ⟨rfl, hb8⟩; simp only [faultV]; obtain ⟨d0, d1, d2, d3⟩ := (PR.out.below hb8 (by omega)).facts; have HB8 := Lib.hid hb8; clear hb8))
      refine bodyPost_ret (by simp [results, Tryz.results44, go_sem, d0, d1]; try rfl) rfl ?_
      refine ⟨?_, ?_⟩
      · rw [Y.out]; rfl
      · refine hbw.trans ?_
        exact Below.setCell (Below.setCell ((Below.to hbel w.heap.size (by omega)).trans (Below.to HB8.out w.heap.size (by omega))) (Nat.le_refl _) _) (Nat.le_refl _) _
    have hst : stopsB s k = false := by simpa using hstop
    have hlt : k < s.length := by
      rcases Nat.lt_or_ge k s.length with h | h
      · exact h
      · exfalso; apply hstop; simp [stopsB, show s.length ≤ k from h]
    have n10 : s[k] ≠ 10 := by rw [stopsB_lt hlt] at hst; simpa using hst
    have HS := Lib.hid hst
    clear hstop hst
    by_cases e34 : s[k] = 34
    · have Y := Lib.hid (show quotedB s q (q + 1) [] = .ok (acc, k + 1) by rw [HQ.out]; exact quotedB_shut hlt e34)
      have h34 : ((s[k].toNat : Int) == 34) = true := by rw [e34]; rfl
      clear e34 n10 HQ
      go_wp2_with (first
        | (go_at_call 22; refine (stops_any s k _ (by unfold maxLen; omega)).mono ?_; rintro e9 w9 ⟨rfl, rfl⟩; rw [HS.out])
        | (go_at_call 15; refine (fine_any _).mono ?_; rintro e8 w8 ⟨rfl, hb8⟩; simp only [faultV]; obtain ⟨d0, d1, d2, d3⟩ := (PR.out.below hb8 (by omega)).facts; have HB8 := Lib.hid hb8; clear hb8))
      refine bodyPost_ret (by simp [results, Tryz.results44, go_sem, d0, d1]; try rfl) rfl ?_
      refine ⟨?_, ?_⟩
      · rw [Y.out]
        exact ⟨_, rfl, ownsRow_two (ownsRow_below hown HB8.out) (by omega) _ _ (by omega)⟩
      · refine hbw.trans ?_
        exact Below.setCell (Below.setCell ((Below.to hbel w.heap.size (by omega)).trans (Below.to HB8.out w.heap.size (by omega))) (Nat.le_refl _) _) (Nat.le_refl _) _
    have h34 : ((s[k].toNat : Int) == 34) = false := u8_ne e34
    by_cases e36 : s[k] = 36
    · have h36 : ((s[k].toNat : Int) == 36) = true := by rw [e36]; rfl
      cases hv : varB s k with
      | none =>
        have Y := Lib.hid (show quotedB s q (q + 1) [] = .error k by rw [HQ.out]; exact quotedB_var0 hlt e36 hv)
        have HV := Lib.hid hv
        clear hv e34 e36 n10 HQ
        go_wp2_with (first
          | (go_at_call 22; refine (stops_any s k _ (by unfold maxLen; omega)).mono ?_; rintro e9 w9 ⟨rfl, rfl⟩; rw [HS.out])
          | (go_at_call 45; refine (variableR_any s k _ (by omega) hlt).mono ?_; rintro e7 w7 ⟨rfl, hb7⟩; rw [HV.out]; simp only [varV, Atm.agg]; have P7 := Lib.hid (PR.out.below hb7 (by omega)); have HB7 := Lib.hid hb7; have hs7 := hb7.size; clear hb7)
          | (go_at_call 9; refine (bad_any 5 k _).mono ?_; rintro e8 w8 ⟨rfl, hb8⟩; simp only [faultV]; have hb78 := (((Below.refl w7.heap.size w7).alloc (Nat.le_refl _) _).trans (Below.to hb8 w7.heap.size (by simp))); obtain ⟨d0, d1, d2, d3⟩ := (P7.out.below hb78 (by omega)).facts; have HB8 := Lib.hid hb78; clear hb8 hb78))
        refine bodyPost_ret (by simp [results, Tryz.results44, go_sem, d0, d1]; try rfl) rfl ?_
        refine ⟨?_, ?_⟩
        · rw [Y.out]; rfl
        · refine hbw.trans ?_
          exact Below.setCell (Below.setCell (((Below.to hbel w.heap.size (by omega)).trans (Below.to HB7.out w.heap.size (by omega))).trans (Below.to HB8.out w.heap.size (by omega))) (Nat.le_refl _) _) (Nat.le_refl _) _
      | some xn =>
        obtain ⟨x, n⟩ := xn
        have Y := Lib.hid (show quotedB s q (q + 1) [] = quotedB s q (k + n) (acc ++ [.var x k]) by rw [HQ.out]; exact quotedB_var hlt e36 hv)
        obtain ⟨v1, v2, v3, v4⟩ := varB_pos hv
        have HV := Lib.hid hv
        clear hv e34 e36 n10 HQ
        have hn0 : ((n : Int) == 0) = false := by rw [beq_eq_false_iff_ne]; omega
        go_wp2_with (first
          | (go_at_call 22; refine (stops_any s k _ (by unfold maxLen; omega)).mono ?_; rintro e9 w9 ⟨rfl, rfl⟩; rw [HS.out])
          | (go_at_call 45; refine (variableR_any s k _ (by omega) hlt).mono ?_; rintro e7 w7 ⟨rfl, hb7⟩; rw [HV.out]; simp only [varV, Atm.agg]; have HB7 := Lib.hid hb7; have O7 := ownsRow_below hown hb7; have hs7 := hb7.size; clear hb7)
          | (at_builtin; refine wpList_append_own _ rfl _ _ 44 rfl w1.heap.size 75 i0 (.agg #[.int .u8 0, .string ByteArray.empty, .int .i64 0]) 3 32 Tryz.underlying44 hi hz0 hz1 hz2 rfl (by decide) _ _ _ rfl ((O7.alloc _).alloc _) ⟨_, 0, none⟩ 1 1 [.int .u8 0, .string (S x), .int .i64 k] rfl rfl (cells3_at _ _ _ _ _ _ (by simp)) (by simp [Value.oneCell']) (by unfold maxLen; omega) (by omega) (by simp; omega) ?_; intro v' w2 hown2 hgr2 _))
        have hown3 : w2.ownsRow w1.heap.size 75 3 v' (acc ++ [Atm.var x k]).length (atms (acc ++ [Atm.var x k])) := by
          rw [atms_app, List.length_append]; exact hown2
        have hbel3 : Below w1.heap.size w1 w2 := (((hbel.trans (Below.to HB7.out w1.heap.size hszr)).alloc (by omega) _).alloc (by simp; omega) _).grown hgr2 (by simp; omega) (fun z hz => (O7.lt z hz).1)
        clear hown2 hgr2 hown O7
        go_wp2
        go_roundw
        case rel => exact ⟨_, k + n, by go_num, by omega, by omega, by simp; omega, Y, hown3, hbel3⟩
        case measure => simp [intOf]; omega
    have h36 : ((s[k].toNat : Int) == 36) = false := u8_ne e36
    by_cases e92 : s[k] = 92
    · have h92 : ((s[k].toNat : Int) == 92) = true := by rw [e92]; rfl
      by_cases hd : ∃ h1 : k + 1 < s.length, (s[k + 1] = 34 ∨ s[k + 1] = 92 ∨ s[k + 1] = 36)
      · obtain ⟨hl1, hd⟩ := hd
        have Y := Lib.hid (show quotedB s q (q + 1) [] = quotedB s q (k + 2) (acc ++ [.ch s[k + 1]]) by rw [HQ.out]; exact quotedB_esc hl1 e92 hd)
        have hd' : ((s[k + 1].toNat : Int) != 34) = false ∨ (((s[k + 1].toNat : Int) != 34) = true ∧ ((s[k + 1].toNat : Int) != 92) = false) ∨ (((s[k + 1].toNat : Int) != 34) = true ∧ ((s[k + 1].toNat : Int) != 92) = true ∧ ((s[k + 1].toNat : Int) != 36) = false) := by
          rcases hd with h | h | h <;> rw [h] <;> decide
        clear e34 e36 n10 HQ e92 hd
        rcases hd' with m1 | ⟨m1, m2⟩ | ⟨m1, m2, m3⟩
        all_goals
          go_wp2_with (first
            | (go_at_call 22; refine (stops_any s k _ (by unfold maxLen; omega)).mono ?_; rintro e9 w9 ⟨rfl, rfl⟩; rw [HS.out])
            | (at_builtin; refine wpList_append_own _ rfl _ _ 44 rfl w1.heap.size 75 i0 (.agg #[.int .u8 0, .string ByteArray.empty, .int .i64 0]) 3 32 Tryz.underlying44 hi hz0 hz1 hz2 rfl (by decide) _ _ _ rfl (hown.alloc _) ⟨_, 0, none⟩ 1 1 [.int .u8 s[k + 1].toNat, .string (S []), .int .i64 0] rfl rfl (cells3_new _ _ _ _ _) (by simp [Value.oneCell']) (by unfold maxLen; omega) (by omega) (by simp; omega) ?_; intro v' w2 hown2 hgr2 _))
          have hown3 : w2.ownsRow w1.heap.size 75 3 v' (acc ++ [Atm.ch s[k + 1]]).length (atms (acc ++ [Atm.ch s[k + 1]])) := by
            rw [atms_app, List.length_append]; exact hown2
          have hbel3 : Below w1.heap.size w1 w2 := (hbel.alloc hszr _).grown hgr2 (by simp; omega) (fun z hz => (hown.lt z hz).1)
          clear hown2 hgr2 hown
          go_wp2
          go_roundw
          case rel => exact ⟨_, k + 2, by go_num, by omega, by omega, by simp; omega, Y, hown3, hbel3⟩
          case measure => simp [intOf]; omega
      · have Y := Lib.hid (show quotedB s q (q + 1) [] = .error k by rw [HQ.out]; exact quotedB_esc0 hlt e92 (fun h1 h => hd ⟨h1, h⟩))
        clear e34 e36 n10 HQ e92
        have hd1 : s.length ≤ k + 1 ∨ ∃ h1 : k + 1 < s.length, ((s[k + 1].toNat : Int) != 34) = true ∧ ((s[k + 1].toNat : Int) != 92) = true ∧ ((s[k + 1].toNat : Int) != 36) = true := by
          rcases Nat.lt_or_ge (k + 1) s.length with h | h
          · refine .inr ⟨h, u8_ne' (d := 34) fun e => hd ⟨h, .inl e⟩, u8_ne' (d := 92) fun e => hd ⟨h, .inr (.inl e)⟩, u8_ne' (d := 36) fun e => hd ⟨h, .inr (.inr e)⟩⟩
          · exact .inl h
        clear hd
        rcases hd1 with hd1 | ⟨hl1, hd1, hd2, hd3⟩
        all_goals
          go_wp2_with (first
            | (go_at_call 22; refine (stops_any s k _ (by unfold maxLen; omega)).mono ?_; rintro e9 w9 ⟨rfl, rfl⟩; rw [HS.out])
            | (go_at_call 9; refine (bad_any 5 k _).mono ?_; rintro e8 w8 ⟨rfl, hb8⟩; simp only [faultV]; obtain ⟨d0, d1, d2, d3⟩ := (PR.out.below hb8 (by omega)).facts; have HB8 := Lib.hid hb8; clear hb8))
          refine bodyPost_ret (by simp [results, Tryz.results44, go_sem, d0, d1]; try rfl) rfl ?_
          refine ⟨?_, ?_⟩
          · rw [Y.out]; rfl
          · refine hbw.trans ?_
            exact Below.setCell (Below.setCell ((Below.to hbel w.heap.size (by omega)).trans (Below.to HB8.out w.heap.size (by omega))) (Nat.le_refl _) _) (Nat.le_refl _) _
    have h92 : ((s[k].toNat : Int) == 92) = false := u8_ne e92
    · have Y := Lib.hid (show quotedB s q (q + 1) [] = quotedB s q (k + 1) (acc ++ [.ch s[k]]) by rw [HQ.out]; exact quotedB_ch hlt n10 e34 e36 e92)
      clear e34 e36 n10 HQ e92
      · skip
        go_wp2_with (first
          | (go_at_call 22; refine (stops_any s k _ (by unfold maxLen; omega)).mono ?_; rintro e9 w9 ⟨rfl, rfl⟩; rw [HS.out])
          | (at_builtin; refine wpList_append_own _ rfl _ _ 44 rfl w1.heap.size 75 i0 (.agg #[.int .u8 0, .string ByteArray.empty, .int .i64 0]) 3 32 Tryz.underlying44 hi hz0 hz1 hz2 rfl (by decide) _ _ _ rfl (hown.alloc _) ⟨_, 0, none⟩ 1 1 [.int .u8 s[k].toNat, .string (S []), .int .i64 0] rfl rfl (cells3_new _ _ _ _ _) (by simp [Value.oneCell']) (by unfold maxLen; omega) (by omega) (by simp; omega) ?_; intro v' w2 hown2 hgr2 _))
        have hown3 : w2.ownsRow w1.heap.size 75 3 v' (acc ++ [Atm.ch s[k]]).length (atms (acc ++ [Atm.ch s[k]])) := by
          rw [atms_app, List.length_append]; exact hown2
        have hbel3 : Below w1.heap.size w1 w2 := (hbel.alloc hszr _).grown hgr2 (by simp; omega) (fun z hz => (hown.lt z hz).1)
        clear hown2 hgr2 hown
        go_wp2
        go_roundw
        case rel => exact ⟨_, k + 1, by go_num, by omega, by omega, by simp; omega, Y, hown3, hbel3⟩
        case measure => simp [intOf]; omega
end Go.Proofs.YtflggoddfjmljaaGreatDoor
