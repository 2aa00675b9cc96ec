/-
  The program's own lexer: names, ends of lines, a fault thrown.
  What a call leaves but for some blocks; a fault thrown.
  The program's own lexer: a variable.
  The program's own parser: modes, names of variables.
-/
import Derived.Deep.QuietTactic
import Derived.BigQuiet
import Derived.Test.YtflggoddfjmljaaGreatDoorY02
import Derived.Test.YtflggoddfjmljaaGreatDoorShelf
set_option linter.unusedVariables false
set_option linter.unusedSimpArgs false
namespace Go.Proofs.YtflggoddfjmljaaGreatDoor
open Go.RowKit

theorem failP_any (e p : Int) (w : World) :
    Calls Tryz.prog 32 #[.int .i64 e, .int .i64 p] w fun r w' => r = .panicked [{ v := .iface 64 (.pointer (some ⟨w.heap.size, 0, none⟩)), recovered := false }] ∧ w' = w.alloc (.cells #[.int .i64 e, .int .i64 p] 68) := by
  go_enter Tryz.func32, Tryz.ntmps32
  go_wp2
  exact ⟨rfl, rfl, rfl⟩

set_option maxHeartbeats 1000000 in
theorem nameP_any (s : List UInt8) (w : World) (hs : s.length ≤ 2000000000) :
    Calls Tryz.prog 77 #[.string (S s)] w fun e w' => e = .returned (.int .i64 (greatB s)) ∧ w = w' := by
  go_enter Tryz.func77, Tryz.ntmps77
  go_wp2
  go_loop [3] (fun i => ∃ k : Nat, k ≤ s.length ∧ i = .int .i64 k ∧ Hid (∀ j, j < k → okG s j = true)) (fun i => s.length - (intOf i).toNat)
  case atStart => exact ⟨0, by omega, rfl, by intro j hj; omega⟩
  case round =>
    obtain ⟨k, hk, rfl, hall⟩ := hrel
    by_cases hlt : k < s.length
    · have hL := letterC_iff s[k]
      have hT := tailC_iff s[k]
      have ho := okG_at s k hlt
      cases hok : okG s k
      · have HA := Lib.hid (greatB_at s k (by omega) hall.out hok)
        rw [hok] at ho
        have hn : ¬ (65 ≤ (s[k].toNat : Int) ∧ (s[k].toNat : Int) ≤ 90) ∧ (0 < k → ¬ ((48 ≤ (s[k].toNat : Int) ∧ (s[k].toNat : Int) ≤ 57) ∨ (s[k].toNat : Int) = 95)) := by
          split at ho
          · exact ⟨fun h => (by rw [hL.2 h] at ho; cases ho), by omega⟩
          · exact ⟨fun h => (by rw [hT.2 (.inl h)] at ho; cases ho), fun _ h => (by rw [hT.2 (.inr h)] at ho; cases ho)⟩
        obtain ⟨n1, n2⟩ := hn
        clear hok ho hL hT hall
        go_wp2
        all_goals first
          | (go_ret; exact ⟨ret_int (by rw [HA.out]), rfl⟩)
          | (exfalso; simp only [Bool.not_eq_true', Bool.not_eq_false', bne_iff_ne, bne_eq_false_iff_eq, beq_iff_eq, beq_eq_false_iff_ne, decide_eq_true_eq, decide_eq_false_iff_not, ne_eq] at *; omega)
      · have HA := Lib.hid (show ∀ j, j < k + 1 → okG s j = true by
          intro j hj
          rcases Nat.lt_or_ge j k with h | h
          · exact hall.out j h
          · obtain rfl : j = k := by omega
            exact hok)
        rw [hok] at ho
        have hn : (65 ≤ (s[k].toNat : Int) ∧ (s[k].toNat : Int) ≤ 90) ∨ (0 < k ∧ ((48 ≤ (s[k].toNat : Int) ∧ (s[k].toNat : Int) ≤ 57) ∨ (s[k].toNat : Int) = 95)) := by
          split at ho
          · exact .inl (hL.1 ho.symm)
          · rcases hT.1 ho.symm with h | h
            · exact .inl h
            · exact .inr ⟨by omega, h⟩
        clear hok ho hL hT hall
        go_wp2
        all_goals first
          | (go_round; (case rel => exact ⟨k + 1, by omega, by go_num, HA⟩); (case measure => simp [intOf]; omega))
          | (exfalso; simp only [Bool.not_eq_true', Bool.not_eq_false', bne_iff_ne, bne_eq_false_iff_eq, beq_iff_eq, beq_eq_false_iff_ne, decide_eq_true_eq, decide_eq_false_iff_not, ne_eq] at *; omega)
    · obtain rfl : k = s.length := by omega
      have HA := Lib.hid (greatB_at s s.length (by omega) hall.out (okG_len s))
      clear hall
      go_wp2
      go_ret
      exact ⟨ret_int (by rw [HA.out]), rfl⟩

theorem u8_beq (c d : UInt8) : ((c.toNat : Int) == (d.toNat : Int)) = (c == d) := by
  rw [Bool.eq_iff_iff, beq_iff_eq, beq_iff_eq]; exact u8_eq.symm
/-- a lexer in memory -/
def Lex (w : World) (g : Nat) (s : List UInt8) (k : Nat) : Prop := w.heap[g]? = some (Obj.cells #[.string (S s), .int .i64 k] 92 (0, 0))
theorem Lex.blk2 {w : World} {g : Nat} {s : List UInt8} {k : Nat} (h : Lex w g s k) : Blk2 w g (.string (S s)) (.int .i64 k) := ⟨_, h⟩

set_option maxHeartbeats 1000000 in
theorem endP_any (s : List UInt8) (g k : Nat) (w : World) (hs : s.length ≤ 2000000000) (hk : k ≤ s.length) (hx : Lex w g s k) :
    Calls Tryz.prog 51 #[.pointer (some ⟨g, 0, none⟩)] w fun e w' => e = .returned (.bool (stopsB s k)) ∧ ∃ m, w' = w.drewN m := by
  obtain ⟨c1, c2, c3, c4⟩ := hx.blk2.facts
  clear hx
  by_cases h : k < s.length
  · have HS := Lib.hid (show stopsB s k = (s[k] == 10) by simp [stopsB, h])
    have hne : ((k : Int) == (s.length : Int)) = false := by rw [beq_eq_false_iff_ne]; omega
    go_enter Tryz.func51, Tryz.ntmps51
    go_wp2
    go_quiet (fail)
    go_wp2
    go_ret
    exact ⟨ret_bool (by rw [HS.out]; exact u8_beq s[k] 10), _, rfl⟩
  · obtain rfl : k = s.length := by omega
    have HS := Lib.hid (show stopsB s s.length = true by simp [stopsB])
    have hne : ((s.length : Int) == (s.length : Int)) = true := by simp
    go_enter Tryz.func51, Tryz.ntmps51
    go_wp2
    go_quiet (fail)
    go_wp2
    go_ret
    exact ⟨ret_bool (by rw [HS.out]), _, rfl⟩

theorem hasPrefix_any (s p : List UInt8) (w : World) :
    Calls Tryz.prog 74 #[.string (S s), .string (S p)] w fun e w' => e = .returned (.bool (p.isPrefixOf s)) ∧ w = w' :=
  (Tryz.strings_HasPrefix (S s) (S p) w).mono fun e w' ⟨he, hw⟩ => ⟨by rw [he, S_data, S_data]; rfl, hw.symm⟩
theorem hasPrefix_q (s p : List UInt8) (w : World) :
    Calls Tryz.prog 74 #[.string (S s), .string (S p)] w fun e w' => e = .returned (.bool (p.isPrefixOf s)) ∧ w' = w :=
  (hasPrefix_any s p w).mono fun _ _ ⟨a, b⟩ => ⟨a, b.symm⟩
theorem goesB_prefix (s : List UInt8) (k : Nat) : [92, 10].isPrefixOf (s.drop k) = goesB s k := by
  unfold goesB
  rw [Bool.eq_iff_iff, List.isPrefixOf_iff_prefix, Bool.and_eq_true, beq_iff_eq, beq_iff_eq]
  constructor
  · rintro ⟨r, hr⟩
    have h0 : (s.drop k)[0]? = some 92 := by rw [← hr]; rfl
    have h1 : (s.drop k)[1]? = some 10 := by rw [← hr]; rfl
    rw [List.getElem?_drop] at h0 h1
    exact ⟨h0, h1⟩
  · rintro ⟨h0, h1⟩
    obtain ⟨a0, b0⟩ := List.getElem?_eq_some_iff.1 h0
    obtain ⟨a1, b1⟩ := List.getElem?_eq_some_iff.1 h1
    refine ⟨s.drop (k + 2), ?_⟩
    rw [List.drop_eq_getElem_cons a0, List.drop_eq_getElem_cons a1, b0, b1]
    rfl
set_option maxHeartbeats 1000000 in
theorem joinedP_any (s : List UInt8) (g k : Nat) (w : World) (hs : s.length ≤ 2000000000) (hk : k ≤ s.length) (hx : Lex w g s k) :
    Calls Tryz.prog 63 #[.pointer (some ⟨g, 0, none⟩)] w fun e w' => e = .returned (.bool (goesB s k)) ∧ ∃ m, w' = w.drewN m := by
  obtain ⟨c1, c2, c3, c4⟩ := hx.blk2.facts
  clear hx
  have HG := Lib.hid (goesB_prefix s k)
  have hk1 : (k : Int) ≤ (s.length : Int) := by omega
  have hk0 : (0 : Int) ≤ (k : Int) := by omega
  go_enter Tryz.func63, Tryz.ntmps63
  go_wp2
  go_quiet (exact Calls.quiet_of_same (hasPrefix_q (s.drop k) [92, 10] _))
  go_wp2
  go_ret
  exact ⟨ret_bool (by rw [← HG.out]), _, rfl⟩
end Go.Proofs.YtflggoddfjmljaaGreatDoor
namespace Go.Proofs.YtflggoddfjmljaaGreatDoor
open Go.RowKit

/-- all blocks but those of G are as they were, the streams too -/
structure Fr (G : Nat → Prop) (w w' : World) : Prop where
  os : w'.os = w.os
  tape : w'.tape = w.tape
  output : w'.output = w.output
  size : w.heap.size ≤ w'.heap.size
  block : ∀ k, k < w.heap.size → ¬ G k → w'.heap[k]? = w.heap[k]?
theorem Fr.refl (G : Nat → Prop) (w : World) : Fr G w w := ⟨rfl, rfl, rfl, Nat.le_refl _, fun _ _ _ => rfl⟩
theorem Fr.trans {G : Nat → Prop} {a b c : World} (h : Fr G a b) (k : Fr G b c) : Fr G a c :=
  ⟨k.os.trans h.os, k.tape.trans h.tape, k.output.trans h.output, Nat.le_trans h.size k.size, fun i hi hg => (k.block i (Nat.lt_of_lt_of_le hi h.size) hg).trans (h.block i hi hg)⟩
theorem Fr.mono {G G' : Nat → Prop} {w w' : World} (h : Fr G w w') (hG : ∀ k, k < w.heap.size → G k → G' k) : Fr G' w w' :=
  ⟨h.os, h.tape, h.output, h.size, fun k hk hg => h.block k hk (fun e => hg (hG k hk e))⟩
theorem Fr.below {G : Nat → Prop} {w w' : World} (h : Below w.heap.size w w') : Fr G w w' := ⟨h.os, h.tape, h.output, h.size, fun k hk _ => h.block k hk⟩
theorem Fr.alloc {G : Nat → Prop} {a w : World} (h : Fr G a w) (o : Obj) : Fr G a (w.alloc o) := h.trans (Fr.below ((Below.refl _ _).alloc (Nat.le_refl _) o))
theorem Fr.drewN {G : Nat → Prop} {a w : World} (h : Fr G a w) (n : Nat) : Fr G a (w.drewN n) := ⟨h.os, h.tape, h.output, h.size, h.block⟩
theorem Fr.drew {G : Nat → Prop} {a w : World} (h : Fr G a w) : Fr G a w.drew := ⟨h.os, h.tape, h.output, h.size, h.block⟩
theorem Fr.setCell {G : Nat → Prop} {a w : World} (h : Fr G a w) {g : Nat} (hg : g < a.heap.size → G g) (o : Nat) (u : Value) : Fr G a (w.setCell ⟨g, o, none⟩ u) :=
  ⟨h.os, h.tape, h.output, by rw [World.size_setCell]; exact h.size, fun k hk hn => by
    have hne : k ≠ g := by rintro rfl; exact hn (hg hk)
    rw [heap_setCell_other w ⟨g, o, none⟩ k u hne]; exact h.block k hk hn⟩
theorem Fr.grown {G : Nat → Prop} {a w w' : World} {row : Option Nat} (h : Fr G a w) (hg : w.grownBy w' row) (hr : ∀ k, row = some k → k < a.heap.size → G k) : Fr G a w' :=
  ⟨hg.os.trans h.os, hg.tape.trans h.tape, hg.output.trans h.output, Nat.le_trans h.size hg.size, fun k hk hn => by
    rw [hg.block k (Nat.lt_of_lt_of_le hk h.size) (fun e => hn (hr k e.symm hk))]; exact h.block k hk hn⟩
theorem Fr.toBelow {G : Nat → Prop} {w w' : World} {B : Nat} (h : Fr G w w') (hB : B ≤ w.heap.size) (hG : ∀ k, G k → B ≤ k) : Below B w w' :=
  ⟨h.os, h.tape, h.output, h.size, fun k hk => h.block k (Nat.lt_of_lt_of_le hk hB) (fun e => by have := hG k e; omega)⟩
theorem Fr.keepT {G : Nat → Prop} {w w' : World} {T : TypeId} (h : Fr G w w') (hG : ∀ k cur fz, G k → w.heap[k]? = some (Obj.cells cur T fz) → False) : ∀ (g : Nat) (cur : Array Value), w.heap[g]? = some (Obj.cells cur T (0, 0)) → w'.heap[g]? = some (Obj.cells cur T (0, 0)) :=
  fun g cur e => (h.block g (Array.getElem?_eq_some_iff.1 e).1 (fun x => hG g cur _ x e)).trans e

abbrev tLex : TypeId := 92
abbrev tAt : TypeId := 68
abbrev tPtrAt : TypeId := 64
/-- a fault was thrown: its number, its place -/
def Thrown (w w' : World) (e : Ending) (f p : Int) : Prop :=
  ∃ n, e = .panicked [{ v := .iface tPtrAt (.pointer (some ⟨n, 0, none⟩)), recovered := false }] ∧ w.heap.size ≤ n ∧ w'.heap[n]? = some (Obj.cells #[.int .i64 f, .int .i64 p] tAt (0, 0))
theorem thrown_fail (w : World) (f p : Int) {wx : World} (h : w.heap.size ≤ wx.heap.size) : Thrown w (wx.alloc (.cells #[.int .i64 f, .int .i64 p] tAt)) (.panicked [{ v := .iface tPtrAt (.pointer (some ⟨wx.heap.size, 0, none⟩)), recovered := false }]) f p :=
  ⟨wx.heap.size, rfl, h, heap_alloc_new wx _⟩
theorem Thrown.later {w w0 w' : World} {e : Ending} {f p : Int} (h : Thrown w0 w' e f p) (hs : w.heap.size ≤ w0.heap.size) : Thrown w w' e f p := by
  obtain ⟨n, a, b, c⟩ := h
  exact ⟨n, a, Nat.le_trans hs b, c⟩
theorem Lex.set {w : World} {g : Nat} {s : List UInt8} {k : Nat} (h : Lex w g s k) (m : Nat) : Lex (w.setCell ⟨g, 1, none⟩ (.int .i64 m)) g s m := heap_setCell_same w g 1 _ _ _ h
theorem Lex.fr {w w' : World} {g : Nat} {s : List UInt8} {k : Nat} {G : Nat → Prop} (h : Lex w g s k) (hf : Fr G w w') (hg : ¬ G g) : Lex w' g s k := (hf.block g (Array.getElem?_eq_some_iff.1 h).1 hg).trans h
theorem Lex.after {w w' : World} {g : Nat} {s : List UInt8} {k : Nat} (h : Lex w g s k) (hb : Below w.heap.size w w') : Lex w' g s k := (hb.block g (Array.getElem?_eq_some_iff.1 h).1).trans h
theorem Lex.lt {w : World} {g : Nat} {s : List UInt8} {k : Nat} (h : Lex w g s k) : g < w.heap.size := (Array.getElem?_eq_some_iff.1 h).1
theorem Lex.drewN {w : World} {g : Nat} {s : List UInt8} {k : Nat} (h : Lex w g s k) (n : Nat) : Lex (w.drewN n) g s k := h
theorem Lex.alloc {w : World} {g : Nat} {s : List UInt8} {k : Nat} (h : Lex w g s k) (o : Obj) : Lex (w.alloc o) g s k := h.after ((Below.refl _ _).alloc (Nat.le_refl _) o)
end Go.Proofs.YtflggoddfjmljaaGreatDoor
namespace Go.Proofs.YtflggoddfjmljaaGreatDoor
open Go.RowKit

theorem cutPrefix_q (s p : List UInt8) (w : World) :
    Calls Tryz.prog 76 #[.string (S s), .string (S p)] w fun e w' => e = .returned (.tuple #[.string (S (if p.isPrefixOf s then s.drop p.length else s)), .bool (p.isPrefixOf s)]) ∧ w' = w :=
  (Tryz.strings_CutPrefix (S s) (S p) w).mono fun e w' ⟨he, hw⟩ => ⟨by rw [he, S_data, S_data]; rfl, hw⟩
theorem cutPrefix_no (s p : List UInt8) (w : World) (h : p.isPrefixOf s = false) :
    Calls Tryz.prog 76 #[.string (S s), .string (S p)] w fun e w' => e = .returned (.tuple #[.string (S s), .bool false]) ∧ w' = w := by
  have := cutPrefix_q s p w
  rw [h] at this; exact this
theorem cutPrefix_yes (s p : List UInt8) (w : World) (h : p.isPrefixOf s = true) :
    Calls Tryz.prog 76 #[.string (S s), .string (S p)] w fun e w' => e = .returned (.tuple #[.string (S (s.drop p.length)), .bool true]) ∧ w' = w := by
  have := cutPrefix_q s p w
  rw [h] at this; exact this
theorem brace_prefix (s : List UInt8) (k : Nat) (c : UInt8) : [c].isPrefixOf (s.drop k) = (s[k]? == some c) := by
  rw [Bool.eq_iff_iff, List.isPrefixOf_iff_prefix, beq_iff_eq]
  constructor
  · rintro ⟨r, hr⟩
    have h0 : (s.drop k)[0]? = some c := by rw [← hr]; rfl
    rwa [List.getElem?_drop] at h0
  · intro h0
    obtain ⟨a0, b0⟩ := List.getElem?_eq_some_iff.1 h0
    exact ⟨s.drop (k + 1), by rw [List.drop_eq_getElem_cons a0, b0]; rfl⟩

abbrev tPiece : TypeId := 143
theorem heap_alloc_at (w : World) (o : Obj) (n : Nat) (h : w.heap.size = n) : (w.alloc o).heap[n]? = some o := by subst h; exact heap_alloc_new w o
theorem Lex.far {w : World} {g g' : Nat} {s : List UInt8} {k : Nat} (h : Lex w g s k) (o : Nat) (u : Value) (hne : g ≠ g') : Lex (w.setCell ⟨g', o, none⟩ u) g s k := by
  unfold Lex
  rw [heap_setCell_other w ⟨g', o, none⟩ g u hne]; exact h
/-- what 'variable' does -/
def varOut (w w' : World) (e : Ending) (g k : Nat) (s : List UInt8) : Option (List UInt8 × Nat) → Prop
  | none => Thrown w w' e 5 k
  | some (x, n) => e = .returned (.agg #[.string (S x), .bool true, .int .i64 k]) ∧ Lex w' g s (k + n)

set_option maxRecDepth 100000 in
set_option maxHeartbeats 4000000 in
theorem variableP_any (s : List UInt8) (g k : Nat) (w : World) (hs : s.length ≤ 2000000000) (hk : k < s.length) (hx : Lex w g s k) :
    Calls Tryz.prog 65 #[.pointer (some ⟨g, 0, none⟩)] w fun e w' => varOut w w' e g k s (varB s k) ∧ Fr (fun b => b = g) w w' := by
  obtain ⟨c1, c2, c3, c4⟩ := hx.blk2.facts
  have hlt := hx.lt
  have HX := Lib.hid hx
  have hk1 : (k : Int) + 1 ≤ (s.length : Int) := by omega
  have hk0 : (0 : Int) ≤ (k : Int) + 1 := by omega
  have hw1 : IntKind.i64.wrap ((k : Int) + 1) = (k : Int) + 1 := by rw [IntKind.wrap_i64]; omega
  have hw4 : ((k : Int) + 1).toNat = k + 1 := by omega
  have HP := Lib.hid (brace_prefix s (k + 1) 123)
  clear hx
  cases ho : ([123].isPrefixOf (s.drop (k + 1)))
  · -- no brace
    have H1 := Lib.hid (show ¬ s[k + 1]? = some 123 by intro e; rw [HP.out, e] at ho; cases ho)
    obtain ⟨n, hn⟩ : ∃ n, n = greatB (s.drop (k + 1)) := ⟨_, rfl⟩
    have hnl : n ≤ s.length - (k + 1) := by rw [hn]; have := greatB_le (s.drop (k + 1)); simpa using this
    have HN := Lib.hid hn
    have HV := Lib.hid (show varB s k = if n = 0 ∨ 10 < n then none else some ((s.drop (k + 1)).take n, n + 1) by unfold varB; rw [if_neg H1.out, ← hn])
    have HO := Lib.hid ho
    clear hn ho HP
    have hways : n = 0 ∨ 10 < n ∨ (0 < n ∧ n ≤ 10) := by omega
    rcases hways with h0 | h0 | ⟨h0, h10⟩
    · have Y := Lib.hid (show varB s k = none by rw [HV.out, if_pos (.inl h0)])
      have hN0 : (n : Int) ≤ 0 := by omega
      clear h0
      go_enter Tryz.func65, Tryz.ntmps65
      go_wp2
      go_quiet (exact Calls.quiet_of_same (cutPrefix_no (s.drop (k + 1)) [123] _ HO.out))
      go_wp2_with (first
        | (go_at_call 77; refine (nameP_any (s.drop (k + 1)) _ (by simp only [List.length_drop]; omega)).mono ?_; rintro e3 w3 ⟨rfl, rfl⟩; rw [← HN.out])
        | (go_at_call 32; refine (failP_any 5 k _).mono ?_; rintro e5 w5 ⟨rfl, rfl⟩))
      refine ⟨rfl, ?_, ?_⟩
      · rw [Y.out]
        exact ⟨_, rfl, by omega, heap_alloc_at _ _ _ (by simp)⟩
      · exact (((Fr.refl (fun b => b = g) w).alloc _).alloc _).drewN _ |>.alloc _
    · have Y := Lib.hid (show varB s k = none by rw [HV.out, if_pos (.inr h0)])
      have hN0 : (0 : Int) < (n : Int) := by omega
      have hN1 : decide ((n : Int) ≤ 10) = false := by rw [decide_eq_false_iff_not]; omega
      clear h0
      go_enter Tryz.func65, Tryz.ntmps65
      go_wp2
      go_quiet (exact Calls.quiet_of_same (cutPrefix_no (s.drop (k + 1)) [123] _ HO.out))
      go_wp2_with (first
        | (go_at_call 77; refine (nameP_any (s.drop (k + 1)) _ (by simp only [List.length_drop]; omega)).mono ?_; rintro e3 w3 ⟨rfl, rfl⟩; rw [← HN.out])
        | (go_at_call 32; refine (failP_any 5 k _).mono ?_; rintro e5 w5 ⟨rfl, rfl⟩))
      refine ⟨rfl, ?_, ?_⟩
      · rw [Y.out]
        exact ⟨_, rfl, by omega, heap_alloc_at _ _ _ (by simp)⟩
      · exact (((Fr.refl (fun b => b = g) w).alloc _).alloc _).drewN _ |>.alloc _
    · have Y := Lib.hid (show varB s k = some ((s.drop (k + 1)).take n, n + 1) by rw [HV.out, if_neg (by omega)])
      have hN0 : (0 : Int) < (n : Int) := by omega
      have hN1 : (n : Int) ≤ 10 := by omega
      go_enter Tryz.func65, Tryz.ntmps65
      go_wp2
      go_quiet (exact Calls.quiet_of_same (cutPrefix_no (s.drop (k + 1)) [123] _ HO.out))
      go_wp2_with (first
        | (go_at_call 77; refine (nameP_any (s.drop (k + 1)) _ (by simp only [List.length_drop]; omega)).mono ?_; rintro e3 w3 ⟨rfl, rfl⟩; rw [← HN.out])
        | (go_at_call 32; refine (failP_any 5 k _).mono ?_; rintro e5 w5 ⟨rfl, rfl⟩))
      refine bodyPost_ret (by simp [results, Tryz.results65, go_sem]; try rfl) rfl ?_
      refine ⟨?_, ?_⟩
      · rw [Y.out]
        refine ⟨rfl, ?_⟩
        have := ((((((HX.out.alloc (.cells #[.string (S []), .bool false, .int .i64 0] tPiece)).alloc (.cells #[.string (S []), .bool true, .int .i64 k] tPiece)).drewN nq).far (g' := w.heap.size + 1) 0 (.string (S ((s.drop (k + 1)).take n))) (by omega)).set (k + (n + 1))).far (g' := w.heap.size) 0 (.string (S ((s.drop (k + 1)).take n))) (by omega)).far (g' := w.heap.size) 1 (.bool true) (by omega) |>.far (g' := w.heap.size) 2 (.int .i64 k) (by omega)
        rw [show ((k + (n + 1) : Nat) : Int) = (k : Int) + (1 + (n : Int)) by omega] at this
        exact this
      · exact ((((((((Fr.refl (fun b => b = g) w).alloc _).alloc _).drewN _).setCell (fun h => by omega) _ _).setCell (fun _ => rfl) _ _).setCell (fun h => by omega) _ _).setCell (fun h => by omega) _ _).setCell (fun h => by omega) _ _
  · -- a brace
    have H1 := Lib.hid (show s[k + 1]? = some 123 by have := HP.out.symm.trans ho; simpa using this)
    obtain ⟨n, hn⟩ : ∃ n, n = greatB (s.drop (k + 1 + 1)) := ⟨_, rfl⟩
    have hnl : n ≤ s.length - (k + 1 + 1) := by rw [hn]; have := greatB_le (s.drop (k + 1 + 1)); simpa using this
    have HN := Lib.hid hn
    have HO := Lib.hid ho
    have HV := Lib.hid (show varB s k = if n = 0 ∨ 10 < n ∨ s[k + 2 + n]? ≠ some 125 then none else some ((s.drop (k + 1 + 1)).take n, n + 3) by unfold varB; rw [if_pos H1.out, hn])
    have HB := Lib.hid (brace_prefix s (k + 1 + 1 + n) 125)
    clear hn ho HP
    obtain ⟨br, hbr⟩ : ∃ v, [125].isPrefixOf (s.drop (k + 1 + 1 + n)) = v := ⟨_, rfl⟩
    have HBR := Lib.hid hbr
    have HBR2 := Lib.hid (show [125].isPrefixOf (List.take (s.length - (k + 1 + 1) - n) (List.drop (k + 1 + 1 + n) s)) = br by rw [List.take_of_length_le (by simp; omega)]; exact hbr)
    have hways : n = 0 ∨ 10 < n ∨ (0 < n ∧ n ≤ 10) := by omega
    rcases hways with h0 | h0 | ⟨h0, h10⟩
    · have Y := Lib.hid (show varB s k = none by rw [HV.out, if_pos (.inl h0)])
      have hN0 : (n : Int) ≤ 0 := by omega
      clear h0 hbr
      go_enter Tryz.func65, Tryz.ntmps65
      go_wp2
      go_quiet (exact Calls.quiet_of_same (cutPrefix_yes (s.drop (k + 1)) [123] _ HO.out))
      go_wp2_with (first
        | (go_at_call 77; refine (nameP_any (s.drop (k + 1 + 1)) _ (by simp only [List.length_drop]; omega)).mono ?_; rintro e3 w3 ⟨rfl, rfl⟩; rw [← HN.out])
        | (go_at_call 74; refine (hasPrefix_any _ [125] _).mono ?_; rintro e4 w4 ⟨rfl, rfl⟩; rw [HBR2.out])
        | (go_at_call 32; refine (failP_any 5 k _).mono ?_; rintro e5 w5 ⟨rfl, rfl⟩))
      refine ⟨rfl, ?_, ?_⟩
      · rw [Y.out]
        exact ⟨_, rfl, by omega, heap_alloc_at _ _ _ (by simp)⟩
      · exact (((Fr.refl (fun b => b = g) w).alloc _).alloc _).drewN _ |>.alloc _
    · have Y := Lib.hid (show varB s k = none by rw [HV.out, if_pos (.inr (.inl h0))])
      have hN0 : (0 : Int) < (n : Int) := by omega
      have hN1 : decide ((n : Int) ≤ 10) = false := by rw [decide_eq_false_iff_not]; omega
      clear h0 hbr
      go_enter Tryz.func65, Tryz.ntmps65
      go_wp2
      go_quiet (exact Calls.quiet_of_same (cutPrefix_yes (s.drop (k + 1)) [123] _ HO.out))
      go_wp2_with (first
        | (go_at_call 77; refine (nameP_any (s.drop (k + 1 + 1)) _ (by simp only [List.length_drop]; omega)).mono ?_; rintro e3 w3 ⟨rfl, rfl⟩; rw [← HN.out])
        | (go_at_call 74; refine (hasPrefix_any _ [125] _).mono ?_; rintro e4 w4 ⟨rfl, rfl⟩; rw [HBR2.out])
        | (go_at_call 32; refine (failP_any 5 k _).mono ?_; rintro e5 w5 ⟨rfl, rfl⟩))
      refine ⟨rfl, ?_, ?_⟩
      · rw [Y.out]
        exact ⟨_, rfl, by omega, heap_alloc_at _ _ _ (by simp)⟩
      · exact (((Fr.refl (fun b => b = g) w).alloc _).alloc _).drewN _ |>.alloc _
    · have hN0 : (0 : Int) < (n : Int) := by omega
      have hN1 : (n : Int) ≤ 10 := by omega
      have hnl' : (n : Int) ≤ (s.length - (k + 1 + 1) : Nat) := by omega
      cases br
      · have Y := Lib.hid (show varB s k = none by
          rw [HV.out, if_pos (.inr (.inr (by intro e; rw [HB.out, show s[k + 1 + 1 + n]? = some 125 from e] at hbr; cases hbr)))])
        clear hbr
        go_enter Tryz.func65, Tryz.ntmps65
        go_wp2
        go_quiet (exact Calls.quiet_of_same (cutPrefix_yes (s.drop (k + 1)) [123] _ HO.out))
        go_wp2_with (first
          | (go_at_call 77; refine (nameP_any (s.drop (k + 1 + 1)) _ (by simp only [List.length_drop]; omega)).mono ?_; rintro e3 w3 ⟨rfl, rfl⟩; rw [← HN.out])
          | (go_at_call 74; refine (hasPrefix_any _ [125] _).mono ?_; rintro e4 w4 ⟨rfl, rfl⟩; rw [HBR2.out])
          | (go_at_call 32; refine (failP_any 5 k _).mono ?_; rintro e5 w5 ⟨rfl, rfl⟩))
        refine ⟨rfl, ?_, ?_⟩
        · rw [Y.out]
          exact ⟨_, rfl, by omega, heap_alloc_at _ _ _ (by simp)⟩
        · exact (((Fr.refl (fun b => b = g) w).alloc _).alloc _).drewN _ |>.alloc _
      · have Y := Lib.hid (show varB s k = some ((s.drop (k + 1 + 1)).take n, n + 3) by
          rw [HV.out, if_neg]
          rintro (h | h | h)
          · omega
          · omega
          · apply h; have := HB.out.symm.trans hbr; simpa using this)
        clear hbr
        go_enter Tryz.func65, Tryz.ntmps65
        go_wp2
        go_quiet (exact Calls.quiet_of_same (cutPrefix_yes (s.drop (k + 1)) [123] _ HO.out))
        go_wp2_with (first
          | (go_at_call 77; refine (nameP_any (s.drop (k + 1 + 1)) _ (by simp only [List.length_drop]; omega)).mono ?_; rintro e3 w3 ⟨rfl, rfl⟩; rw [← HN.out])
          | (go_at_call 74; refine (hasPrefix_any _ [125] _).mono ?_; rintro e4 w4 ⟨rfl, rfl⟩; rw [HBR2.out])
          | (go_at_call 32; refine (failP_any 5 k _).mono ?_; rintro e5 w5 ⟨rfl, rfl⟩))
        refine bodyPost_ret (by simp [results, Tryz.results65, go_sem]; try rfl) rfl ?_
        refine ⟨?_, ?_⟩
        · rw [Y.out]
          refine ⟨rfl, ?_⟩
          have := ((((((HX.out.alloc (.cells #[.string (S []), .bool false, .int .i64 0] tPiece)).alloc (.cells #[.string (S []), .bool true, .int .i64 k] tPiece)).drewN nq).far (g' := w.heap.size + 1) 0 (.string (S ((s.drop (k + 1 + 1)).take n))) (by omega)).set (k + (n + 3))).far (g' := w.heap.size) 0 (.string (S ((s.drop (k + 1 + 1)).take n))) (by omega)).far (g' := w.heap.size) 1 (.bool true) (by omega) |>.far (g' := w.heap.size) 2 (.int .i64 k) (by omega)
          rw [show ((k + (n + 3) : Nat) : Int) = (k : Int) + (1 + (n : Int) + 2) by omega] at this
          exact this
        · exact ((((((((Fr.refl (fun b => b = g) w).alloc _).alloc _).drewN _).setCell (fun h => by omega) _ _).setCell (fun _ => rfl) _ _).setCell (fun h => by omega) _ _).setCell (fun h => by omega) _ _).setCell (fun h => by omega) _ _
end Go.Proofs.YtflggoddfjmljaaGreatDoor
namespace Go.Proofs.YtflggoddfjmljaaGreatDoor
open Go.RowKit

set_option maxRecDepth 100000 in
set_option maxHeartbeats 2000000 in
theorem modeP_any (s : List UInt8) (w : World) (hl : s.length ≤ 1000000) :
    Calls Tryz.prog 83 #[.string (S s)] w fun e w' => (∃ m : Int, e = .returned (.int .i64 m) ∧ (0 ≤ m ↔ modeB s = true)) ∧ w = w' := by
  by_cases hs : s.length = 3
  · have HM := Lib.hid (show modeB s = octsB s by simp [modeB, octsB, hs])
    have HS := Lib.hid hs
    have hs' : ((s.length : Int) != 3) = false := by rw [hs]; rfl
    have hle : s.length ≤ 3 := by omega
    have hge : 3 ≤ s.length := by omega
    clear hs
    go_enter Tryz.func83, Tryz.ntmps83
    go_wp2
    go_loop [3, 8] (fun n i => ∃ (k : Nat) (m : Nat), k ≤ 3 ∧ i = .int .i64 k ∧ n = .int .i64 m ∧ m + 1 ≤ 8 ^ k ∧ Hid ((s.take k).all octC = true)) (fun n i => 3 - (intOf i).toNat)
    case atStart => exact ⟨0, 0, by omega, rfl, rfl, by simp, by simp [Hid]⟩
    case round =>
      obtain ⟨k, m, hk, rfl, rfl, hm, hall⟩ := hrel
      have hm8 : m < 512 := by
        have : 8 ^ k ≤ 8 ^ 3 := Nat.pow_le_pow_right (by omega) hk
        omega
      by_cases hk3 : k < 3
      · have hlt : k < s.length := by omega
        have hL := octC_iff s[k]
        have hb := u8_lt s[k]
        cases hok : octC s[k]
        · have HA := Lib.hid (show octsB s = false by
            unfold octsB
            rw [List.all_eq_false]; exact ⟨s[k], List.getElem_mem hlt, by simp [hok]⟩)
          have hn : ¬ (48 ≤ (s[k].toNat : Int) ∧ (s[k].toNat : Int) ≤ 55) := fun h => by rw [hL.2 h] at hok; cases hok
          clear hok hL hall
          go_wp2
          all_goals first
            | (go_ret; exact ⟨⟨_, rfl, by rw [HM.out, HA.out]; simp⟩, rfl⟩)
            | (exfalso; simp only [Bool.not_eq_true', Bool.not_eq_false', bne_iff_ne, bne_eq_false_iff_eq, beq_iff_eq, beq_eq_false_iff_ne, decide_eq_true_eq, decide_eq_false_iff_not, ne_eq] at *; omega)
        · have HA := Lib.hid (show (s.take (k + 1)).all octC = true by rw [all_snoc _ _ _ hlt, hall.out, hok]; rfl)
          obtain ⟨n1, n2⟩ := hL.1 hok
          have hp : m * 8 + (s[k].toNat - 48) + 1 ≤ 8 ^ (k + 1) := by rw [Nat.pow_succ]; omega
          clear hok hL hall
          go_wp2
          all_goals first
            | (go_round; (case rel => exact ⟨k + 1, m * 8 + (s[k].toNat - 48), by omega, by go_num, by go_num, hp, HA⟩); (case measure => simp [intOf]; omega))
            | (exfalso; simp only [Bool.not_eq_true', Bool.not_eq_false', bne_iff_ne, bne_eq_false_iff_eq, beq_iff_eq, beq_eq_false_iff_ne, decide_eq_true_eq, decide_eq_false_iff_not, ne_eq] at *; omega)
      · have HA := Lib.hid (show octsB s = true by
          unfold octsB
          have := hall.out
          rwa [List.take_of_length_le (by omega)] at this)
        clear hall
        go_wp2
        go_ret
        exact ⟨⟨_, rfl, by rw [HM.out, HA.out]; simp⟩, rfl⟩
  · have HM := Lib.hid (show modeB s = false by simp [modeB, hs])
    have hs' : ((s.length : Int) != 3) = true := by rw [bne_iff_ne]; omega
    clear hs
    go_enter Tryz.func83, Tryz.ntmps83
    go_wp2
    go_ret
    exact ⟨⟨-1, rfl, by rw [HM.out]; simp⟩, rfl⟩

theorem variableNameP_any (s : List UInt8) (w : World) (hl : s.length ≤ 1000000) :
    Calls Tryz.prog 84 #[.string (S s)] w fun e w' => e = .returned (.bool (isVarB s)) ∧ w = w' := by
  have hle := greatB_le s
  by_cases h0 : s = []
  · subst h0
    go_enter Tryz.func84, Tryz.ntmps84
    go_wp2
    go_ret
    exact ⟨rfl, rfl⟩
  have h0' : s.isEmpty = false := by cases s <;> simp_all
  have hne : (s == []) = false := by simpa using h0
  obtain ⟨n, hn⟩ : ∃ n, greatB s = n := ⟨_, rfl⟩
  have HN := Lib.hid hn
  rw [hn] at hle
  have HV := Lib.hid (show isVarB s = (decide (n = s.length) && decide (s.length ≤ 10)) by unfold isVarB; rw [h0', hn]; rfl)
  clear hn h0
  by_cases h1 : n = s.length
  · have h1' : ((n : Int) == (s.length : Int)) = true := by rw [h1]; simp
    have H1 := Lib.hid h1
    clear h1
    go_enter Tryz.func84, Tryz.ntmps84
    go_wp2_with (go_at_call 77; refine (nameP_any s _ (by omega)).mono ?_; rintro e3 w3 ⟨rfl, rfl⟩; rw [HN.out])
    go_ret
    exact ⟨ret_bool (by rw [HV.out, H1.out]; simp; try omega), rfl⟩
  · have h1' : ((n : Int) == (s.length : Int)) = false := by rw [beq_eq_false_iff_ne]; omega
    have H1 := Lib.hid h1
    clear h1
    go_enter Tryz.func84, Tryz.ntmps84
    go_wp2_with (go_at_call 77; refine (nameP_any s _ (by omega)).mono ?_; rintro e3 w3 ⟨rfl, rfl⟩; rw [HN.out])
    go_ret
    exact ⟨ret_bool (by rw [HV.out]; simp [H1.out]), rfl⟩
end Go.Proofs.YtflggoddfjmljaaGreatDoor
