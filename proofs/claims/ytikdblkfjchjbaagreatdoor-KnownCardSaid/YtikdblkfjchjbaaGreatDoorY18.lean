import Derived.Test.YtikdblkfjchjbaaGreatDoorY04
import Derived.Test.YtikdblkfjchjbaaGreatDoorY17
set_option linter.unusedVariables false
set_option linter.unusedSimpArgs false
set_option maxHeartbeats 16000000
set_option maxRecDepth 100000
namespace Go.Proofs.YtikdblkfjchjbaaGreatDoor
open Go.RowKit
theorem qah (e p : Int) (w : World) :
 Calls Tryz.prog 43 #[.int .i64 e, .int .i64 p] w fun r w' => r = .panicked [{ v := .iface 80 (.pointer (some ⟨w.heap.size, 0, none⟩)), recovered := false }] ∧ w' = w.alloc (.cells #[.int .i64 e, .int .i64 p] 84) := by
 go_enter Tryz.func43, Tryz.ntmps43;go_wp2;exact ⟨rfl, rfl, rfl⟩
theorem qc8 (s : List UInt8) (w : World) (hs : s.length ≤ 2000000000) :
 Calls Tryz.prog 149 #[.string (S s)] w fun e w' => e = .returned (.int .i64 (qd6 s)) ∧ w = w' := by
 go_enter Tryz.func149, Tryz.ntmps149;go_wp2;go_loop [3] (fun i => ∃ k : Nat, k ≤ s.length ∧ i = .int .i64 k ∧ Hid (∀ j, j < k → okG s j = true)) (fun i => s.length - (intOf i).toNat)
 case atStart => exact ⟨0, by omega, rfl, by intro j hj; omega⟩
 case round =>
  obtain ⟨k, hk, rfl, hall⟩ := hrel;by_cases hlt : k < s.length
  ·have hL := qli s[k]
   have hT := qwm s[k];have ho := q31 s k hlt;cases hok : okG s k
   ·have HA := q4z (qpo s k (by omega) hall.out hok)
    rw [hok] at ho;have hn : ¬ (65 ≤ (s[k].toNat : Int) ∧ (s[k].toNat : Int) ≤ 90) ∧ (0 < k → ¬ ((48 ≤ (s[k].toNat : Int) ∧ (s[k].toNat : Int) ≤ 57) ∨ (s[k].toNat : Int) = 95)) := by
     split at ho
     ·exact ⟨fun h => (by rw [hL.2 h] at ho; cases ho), by omega⟩
     ·exact ⟨fun h => (by rw [hT.2 (.inl h)] at ho; cases ho), fun _ h => (by rw [hT.2 (.inr h)] at ho; cases ho)⟩
    obtain ⟨n1, n2⟩ := hn;clear hok ho hL hT hall;go_wp2
    all_goals first
     | (go_ret; exact ⟨qc7 (by rw [HA.out]), rfl⟩)
     | (exfalso; simp only [Bool.not_eq_true', Bool.not_eq_false', bne_iff_ne, bne_eq_false_iff_eq, beq_iff_eq, beq_eq_false_iff_ne, decide_eq_true_eq, decide_eq_false_iff_not, ne_eq] at *; omega)
   ·have HA := q4z (show ∀ j, j < k + 1 → okG s j = true by
     intro j hj;rcases Nat.lt_or_ge j k with h | h
     ·exact hall.out j h
     ·obtain rfl : j = k := by omega
      exact hok)
    rw [hok] at ho;have hn : (65 ≤ (s[k].toNat : Int) ∧ (s[k].toNat : Int) ≤ 90) ∨ (0 < k ∧ ((48 ≤ (s[k].toNat : Int) ∧ (s[k].toNat : Int) ≤ 57) ∨ (s[k].toNat : Int) = 95)) := by
     split at ho
     ·exact .inl (hL.1 ho.symm)
     ·rcases hT.1 ho.symm with h | h
      ·exact .inl h
      ·exact .inr ⟨by omega, h⟩
    clear hok ho hL hT hall;go_wp2
    all_goals first
     | (go_round; (case rel => exact ⟨k + 1, by omega, by go_num, HA⟩); (case measure => simp [intOf]; omega))
     | (exfalso; simp only [Bool.not_eq_true', Bool.not_eq_false', bne_iff_ne, bne_eq_false_iff_eq, beq_iff_eq, beq_eq_false_iff_ne, decide_eq_true_eq, decide_eq_false_iff_not, ne_eq] at *; omega)
  ·obtain rfl : k = s.length := by omega
   have HA := q4z (qpo s s.length (by omega) hall.out (q2w s));clear hall;go_wp2;go_ret;exact ⟨qc7 (by rw [HA.out]), rfl⟩
theorem q3s (c d : UInt8) : ((c.toNat : Int) == (d.toNat : Int)) = (c == d) := by
 rw [Bool.eq_iff_iff, beq_iff_eq, beq_iff_eq]; exact qzt.symm
def Lex (w : World) (g : Nat) (s : List UInt8) (k : Nat) : Prop := w.heap[g]? = some (Obj.cells #[.string (S s), .int .i64 k] 108 (0, 0))
theorem Lex.blk2 {w : World} {g : Nat} {s : List UInt8} {k : Nat} (h : Lex w g s k) : Blk2 w g (.string (S s)) (.int .i64 k) := ⟨_, h⟩
theorem qax (s : List UInt8) (g k : Nat) (w : World) (hs : s.length ≤ 2000000000) (hk : k ≤ s.length) (hx : Lex w g s k) :
 Calls Tryz.prog 78 #[.pointer (some ⟨g, 0, none⟩)] w fun e w' => e = .returned (.bool (qa7 s k)) ∧ ∃ m, w' = w.drewN m := by
 obtain ⟨c1, c2, c3, c4⟩ := hx.blk2.facts;clear hx;by_cases h : k < s.length
 ·have HS := q4z (show qa7 s k = (s[k] == 10) by simp [qa7, h])
  have hne : ((k : Int) == (s.length : Int)) = false := by rw [beq_eq_false_iff_ne]; omega
  go_enter Tryz.func78, Tryz.ntmps78;go_wp2;go_quiet (fail);go_wp2;go_ret;exact ⟨qau (by rw [HS.out]; exact q3s s[k] 10), _, rfl⟩
 ·obtain rfl : k = s.length := by omega
  have HS := q4z (show qa7 s s.length = true by simp [qa7]);have hne : ((s.length : Int) == (s.length : Int)) = true := by simp
  go_enter Tryz.func78, Tryz.ntmps78;go_wp2;go_quiet (fail);go_wp2;go_ret;exact ⟨qau (by rw [HS.out]), _, rfl⟩
theorem qdb (s p : List UInt8) (w : World) :
 Calls Tryz.prog 67 #[.string (S s), .string (S p)] w fun e w' => e = .returned (.bool (p.isPrefixOf s)) ∧ w = w' :=
 (Tryz.strings_HasPrefix (S s) (S p) w).mono fun e w' ⟨he, hw⟩ => ⟨by rw [he, qdh, qdh]; rfl, hw.symm⟩
theorem qr1 (s p : List UInt8) (w : World) :
 Calls Tryz.prog 67 #[.string (S s), .string (S p)] w fun e w' => e = .returned (.bool (p.isPrefixOf s)) ∧ w' = w :=
 (qdb s p w).mono fun _ _ ⟨a, b⟩ => ⟨a, b.symm⟩
theorem qpq (s : List UInt8) (k : Nat) : [92, 10].isPrefixOf (s.drop k) = qb4 s k := by
 unfold qb4;rw [Bool.eq_iff_iff, List.isPrefixOf_iff_prefix, Bool.and_eq_true, beq_iff_eq, beq_iff_eq];constructor
 ·rintro ⟨r, hr⟩
  have h0 : (s.drop k)[0]? = some 92 := by rw [← hr]; rfl
  have h1 : (s.drop k)[1]? = some 10 := by rw [← hr]; rfl
  rw [List.getElem?_drop] at h0 h1;exact ⟨h0, h1⟩
 ·rintro ⟨h0, h1⟩
  obtain ⟨a0, b0⟩ := List.getElem?_eq_some_iff.1 h0;obtain ⟨a1, b1⟩ := List.getElem?_eq_some_iff.1 h1;refine ⟨s.drop (k + 2), ?_⟩;rw [List.drop_eq_getElem_cons a0, List.drop_eq_getElem_cons a1, b0, b1];rfl
theorem qbl (s : List UInt8) (g k : Nat) (w : World) (hs : s.length ≤ 2000000000) (hk : k ≤ s.length) (hx : Lex w g s k) :
 Calls Tryz.prog 119 #[.pointer (some ⟨g, 0, none⟩)] w fun e w' => e = .returned (.bool (qb4 s k)) ∧ ∃ m, w' = w.drewN m := by
 obtain ⟨c1, c2, c3, c4⟩ := hx.blk2.facts;clear hx;have HG := q4z (qpq s k);have hk1 : (k : Int) ≤ (s.length : Int) := by omega
 have hk0 : (0 : Int) ≤ (k : Int) := by omega
 go_enter Tryz.func119, Tryz.ntmps119;go_wp2;go_quiet (exact Calls.quiet_of_same (qr1 (s.drop k) [92, 10] _));go_wp2;go_ret;exact ⟨qau (by rw [← HG.out]), _, rfl⟩
structure Fr (G : Nat → Prop) (w w' : World) : Prop where
 os : w'.os = w.os
 tape : w'.tape = w.tape
 output : w'.output = w.output
 size : w.heap.size ≤ w'.heap.size
 block : ∀ k, k < w.heap.size → ¬ G k → w'.heap[k]? = w.heap[k]?
theorem Fr.refl (G : Nat → Prop) (w : World) : Fr G w w := ⟨rfl, rfl, rfl, Nat.le_refl _, fun _ _ _ => rfl⟩
theorem Fr.trans {G : Nat → Prop} {a b c : World} (h : Fr G a b) (k : Fr G b c) : Fr G a c :=
 ⟨k.os.trans h.os, k.tape.trans h.tape, k.output.trans h.output, Nat.le_trans h.size k.size, fun i hi hg => (k.block i (Nat.lt_of_lt_of_le hi h.size) hg).trans (h.block i hi hg)⟩
theorem Fr.mono {G G' : Nat → Prop} {w w' : World} (h : Fr G w w') (hG : ∀ k, k < w.heap.size → G k → G' k) : Fr G' w w' :=
 ⟨h.os, h.tape, h.output, h.size, fun k hk hg => h.block k hk (fun e => hg (hG k hk e))⟩
theorem Fr.below {G : Nat → Prop} {w w' : World} (h : Below w.heap.size w w') : Fr G w w' := ⟨h.os, h.tape, h.output, h.size, fun k hk _ => h.block k hk⟩
theorem Fr.alloc {G : Nat → Prop} {a w : World} (h : Fr G a w) (o : Obj) : Fr G a (w.alloc o) := h.trans (Fr.below ((Below.refl _ _).alloc (Nat.le_refl _) o))
theorem Fr.drewN {G : Nat → Prop} {a w : World} (h : Fr G a w) (n : Nat) : Fr G a (w.drewN n) := ⟨h.os, h.tape, h.output, h.size, h.block⟩
theorem Fr.drew {G : Nat → Prop} {a w : World} (h : Fr G a w) : Fr G a w.drew := ⟨h.os, h.tape, h.output, h.size, h.block⟩
theorem Fr.setCell {G : Nat → Prop} {a w : World} (h : Fr G a w) {g : Nat} (hg : g < a.heap.size → G g) (o : Nat) (u : Value) : Fr G a (w.setCell ⟨g, o, none⟩ u) :=
 ⟨h.os, h.tape, h.output, by rw [World.size_setCell]; exact h.size, fun k hk hn => by
  have hne : k ≠ g := by rintro rfl; exact hn (hg hk)
  rw [heap_setCell_other w ⟨g, o, none⟩ k u hne]; exact h.block k hk hn⟩
theorem Fr.grown {G : Nat → Prop} {a w w' : World} {row : Option Nat} (h : Fr G a w) (hg : w.grownBy w' row) (hr : ∀ k, row = some k → k < a.heap.size → G k) : Fr G a w' :=
 ⟨hg.os.trans h.os, hg.tape.trans h.tape, hg.output.trans h.output, Nat.le_trans h.size hg.size, fun k hk hn => by
  rw [hg.block k (Nat.lt_of_lt_of_le hk h.size) (fun e => hn (hr k e.symm hk))]; exact h.block k hk hn⟩
theorem Fr.toBelow {G : Nat → Prop} {w w' : World} {B : Nat} (h : Fr G w w') (hB : B ≤ w.heap.size) (hG : ∀ k, G k → B ≤ k) : Below B w w' :=
 ⟨h.os, h.tape, h.output, h.size, fun k hk => h.block k (Nat.lt_of_lt_of_le hk hB) (fun e => by have := hG k e; omega)⟩
theorem Fr.keepT {G : Nat → Prop} {w w' : World} {T : TypeId} (h : Fr G w w') (hG : ∀ k cur fz, G k → w.heap[k]? = some (Obj.cells cur T fz) → False) : ∀ (g : Nat) (cur : Array Value), w.heap[g]? = some (Obj.cells cur T (0, 0)) → w'.heap[g]? = some (Obj.cells cur T (0, 0)) :=
 fun g cur e => (h.block g (q41 e).1 (fun x => hG g cur _ x e)).trans e
abbrev tLex : TypeId := 108
abbrev tAt : TypeId := 84
abbrev qci : TypeId := 80
def Thrown (w w' : World) (e : Ending) (f p : Int) : Prop :=
 ∃ n, e = .panicked [{ v := .iface qci (.pointer (some ⟨n, 0, none⟩)), recovered := false }] ∧ w.heap.size ≤ n ∧ w'.heap[n]? = some (Obj.cells #[.int .i64 f, .int .i64 p] tAt (0, 0))
theorem Thrown.later {w w0 w' : World} {e : Ending} {f p : Int} (h : Thrown w0 w' e f p) (hs : w.heap.size ≤ w0.heap.size) : Thrown w w' e f p := by
 obtain ⟨n, a, b, c⟩ := h;exact ⟨n, a, Nat.le_trans hs b, c⟩
theorem Lex.set {w : World} {g : Nat} {s : List UInt8} {k : Nat} (h : Lex w g s k) (m : Nat) : Lex (w.setCell ⟨g, 1, none⟩ (.int .i64 m)) g s m := heap_setCell_same w g 1 _ _ _ h
theorem Lex.fr {w w' : World} {g : Nat} {s : List UInt8} {k : Nat} {G : Nat → Prop} (h : Lex w g s k) (hf : Fr G w w') (hg : ¬ G g) : Lex w' g s k := (hf.block g (q41 h).1 hg).trans h
theorem Lex.after {w w' : World} {g : Nat} {s : List UInt8} {k : Nat} (h : Lex w g s k) (hb : Below w.heap.size w w') : Lex w' g s k := (hb.block g (q41 h).1).trans h
theorem Lex.lt {w : World} {g : Nat} {s : List UInt8} {k : Nat} (h : Lex w g s k) : g < w.heap.size := (q41 h).1
theorem Lex.drewN {w : World} {g : Nat} {s : List UInt8} {k : Nat} (h : Lex w g s k) (n : Nat) : Lex (w.drewN n) g s k := h
theorem Lex.alloc {w : World} {g : Nat} {s : List UInt8} {k : Nat} (h : Lex w g s k) (o : Obj) : Lex (w.alloc o) g s k := h.after ((Below.refl _ _).alloc (Nat.le_refl _) o)
theorem qlx (s p : List UInt8) (w : World) :
 Calls Tryz.prog 148 #[.string (S s), .string (S p)] w fun e w' => e = .returned (.tuple #[.string (S (if p.isPrefixOf s then s.drop p.length else s)), .bool (p.isPrefixOf s)]) ∧ w' = w :=
 (Tryz.strings_CutPrefix (S s) (S p) w).mono fun e w' ⟨he, hw⟩ => ⟨by rw [he, qdh, qdh]; rfl, hw⟩
theorem qd9 (s p : List UInt8) (w : World) (h : p.isPrefixOf s = false) :
 Calls Tryz.prog 148 #[.string (S s), .string (S p)] w fun e w' => e = .returned (.tuple #[.string (S s), .bool false]) ∧ w' = w := by
 have := qlx s p w;rw [h] at this; exact this
theorem qbv (s p : List UInt8) (w : World) (h : p.isPrefixOf s = true) :
 Calls Tryz.prog 148 #[.string (S s), .string (S p)] w fun e w' => e = .returned (.tuple #[.string (S (s.drop p.length)), .bool true]) ∧ w' = w := by
 have := qlx s p w;rw [h] at this; exact this
theorem qj3 (s : List UInt8) (k : Nat) (c : UInt8) : [c].isPrefixOf (s.drop k) = (s[k]? == some c) := by
 rw [Bool.eq_iff_iff, List.isPrefixOf_iff_prefix, beq_iff_eq];constructor
 ·rintro ⟨r, hr⟩
  have h0 : (s.drop k)[0]? = some c := by rw [← hr]; rfl
  rwa [List.getElem?_drop] at h0
 ·intro h0
  obtain ⟨a0, b0⟩ := List.getElem?_eq_some_iff.1 h0;exact ⟨s.drop (k + 1), by rw [List.drop_eq_getElem_cons a0, b0]; rfl⟩
abbrev qa4 : TypeId := 186
theorem qag (w : World) (o : Obj) (n : Nat) (h : w.heap.size = n) : (w.alloc o).heap[n]? = some o := by subst h; exact heap_alloc_new w o
theorem Lex.far {w : World} {g g' : Nat} {s : List UInt8} {k : Nat} (h : Lex w g s k) (o : Nat) (u : Value) (hne : g ≠ g') : Lex (w.setCell ⟨g', o, none⟩ u) g s k := by
 unfold Lex;rw [heap_setCell_other w ⟨g', o, none⟩ g u hne]; exact h
def q3p (w w' : World) (e : Ending) (g k : Nat) (s : List UInt8) : Option (List UInt8 × Nat) → Prop
 | none => Thrown w w' e 5 k
 | some (x, n) => e = .returned (.agg #[.string (S x), .bool true, .int .i64 k]) ∧ Lex w' g s (k + n)
theorem qeh (s : List UInt8) (g k : Nat) (w : World) (hs : s.length ≤ 2000000000) (hk : k < s.length) (hx : Lex w g s k) :
 Calls Tryz.prog 121 #[.pointer (some ⟨g, 0, none⟩)] w fun e w' => q3p w w' e g k s (varB s k) ∧ Fr (fun b => b = g) w w' := by
 obtain ⟨c1, c2, c3, c4⟩ := hx.blk2.facts;have hlt := hx.lt;have HX := q4z hx;have hk1 : (k : Int) + 1 ≤ (s.length : Int) := by omega
 have hk0 : (0 : Int) ≤ (k : Int) + 1 := by omega
 have hw1 : IntKind.i64.wrap ((k : Int) + 1) = (k : Int) + 1 := by rw [IntKind.wrap_i64]; omega
 have hw4 : ((k : Int) + 1).toNat = k + 1 := by omega
 have HP := q4z (qj3 s (k + 1) 123);clear hx;cases ho : ([123].isPrefixOf (s.drop (k + 1)))
 ·
  have H1 := q4z (show ¬ s[k + 1]? = some 123 by intro e; rw [HP.out, e] at ho; cases ho);obtain ⟨n, hn⟩ : ∃ n, n = qd6 (s.drop (k + 1)) := ⟨_, rfl⟩;have hnl : n ≤ s.length - (k + 1) := by rw [hn]; have := qg5 (s.drop (k + 1)); simpa using this
  have HN := q4z hn;have HV := q4z (show varB s k = if n = 0 ∨ 10 < n then none else some ((s.drop (k + 1)).take n, n + 1) by unfold varB; rw [if_neg H1.out, ← hn]);have HO := q4z ho;clear hn ho HP;have hways : n = 0 ∨ 10 < n ∨ (0 < n ∧ n ≤ 10) := by omega
  rcases hways with h0 | h0 | ⟨h0, h10⟩
  ·have Y := q4z (show varB s k = none by rw [HV.out, if_pos (.inl h0)])
   have hN0 : (n : Int) ≤ 0 := by omega
   clear h0;go_enter Tryz.func121, Tryz.ntmps121;go_wp2;go_quiet (exact Calls.quiet_of_same (qd9 (s.drop (k + 1)) [123] _ HO.out));go_wp2_with (first
    | (go_at_call 149; refine (qc8 (s.drop (k + 1)) _ (by simp only [List.length_drop]; omega)).mono ?_; rintro e3 w3 ⟨rfl, rfl⟩; rw [← HN.out])
    | (go_at_call 43; refine (qah 5 k _).mono ?_; rintro e5 w5 ⟨rfl, rfl⟩))
   refine ⟨rfl, ?_, ?_⟩
   ·rw [Y.out]
    exact ⟨_, rfl, by omega, qag _ _ _ (by simp)⟩
   ·exact (((Fr.refl (fun b => b = g) w).alloc _).alloc _).drewN _ |>.alloc _
  ·have Y := q4z (show varB s k = none by rw [HV.out, if_pos (.inr h0)])
   have hN0 : (0 : Int) < (n : Int) := by omega
   have hN1 : decide ((n : Int) ≤ 10) = false := by rw [decide_eq_false_iff_not]; omega
   clear h0;go_enter Tryz.func121, Tryz.ntmps121;go_wp2;go_quiet (exact Calls.quiet_of_same (qd9 (s.drop (k + 1)) [123] _ HO.out));go_wp2_with (first
    | (go_at_call 149; refine (qc8 (s.drop (k + 1)) _ (by simp only [List.length_drop]; omega)).mono ?_; rintro e3 w3 ⟨rfl, rfl⟩; rw [← HN.out])
    | (go_at_call 43; refine (qah 5 k _).mono ?_; rintro e5 w5 ⟨rfl, rfl⟩))
   refine ⟨rfl, ?_, ?_⟩
   ·rw [Y.out]
    exact ⟨_, rfl, by omega, qag _ _ _ (by simp)⟩
   ·exact (((Fr.refl (fun b => b = g) w).alloc _).alloc _).drewN _ |>.alloc _
  ·have Y := q4z (show varB s k = some ((s.drop (k + 1)).take n, n + 1) by rw [HV.out, if_neg (by omega)])
   have hN0 : (0 : Int) < (n : Int) := by omega
   have hN1 : (n : Int) ≤ 10 := by omega
   go_enter Tryz.func121, Tryz.ntmps121;go_wp2;go_quiet (exact Calls.quiet_of_same (qd9 (s.drop (k + 1)) [123] _ HO.out));go_wp2_with (first
    | (go_at_call 149; refine (qc8 (s.drop (k + 1)) _ (by simp only [List.length_drop]; omega)).mono ?_; rintro e3 w3 ⟨rfl, rfl⟩; rw [← HN.out])
    | (go_at_call 43; refine (qah 5 k _).mono ?_; rintro e5 w5 ⟨rfl, rfl⟩))
   refine bodyPost_ret (by simp [results, Tryz.results121, go_sem]; try rfl) rfl ?_;refine ⟨?_, ?_⟩
   ·rw [Y.out]
    refine ⟨rfl, ?_⟩;have := ((((((HX.out.alloc (.cells #[.string (S []), .bool false, .int .i64 0] qa4)).alloc (.cells #[.string (S []), .bool true, .int .i64 k] qa4)).drewN nq).far (g' := w.heap.size + 1) 0 (.string (S ((s.drop (k + 1)).take n))) (by omega)).set (k + (n + 1))).far (g' := w.heap.size) 0 (.string (S ((s.drop (k + 1)).take n))) (by omega)).far (g' := w.heap.size) 1 (.bool true) (by omega) |>.far (g' := w.heap.size) 2 (.int .i64 k) (by omega)
    rw [show ((k + (n + 1) : Nat) : Int) = (k : Int) + (1 + (n : Int)) by omega] at this;exact this
   ·exact ((((((((Fr.refl (fun b => b = g) w).alloc _).alloc _).drewN _).setCell (fun h => by omega) _ _).setCell (fun _ => rfl) _ _).setCell (fun h => by omega) _ _).setCell (fun h => by omega) _ _).setCell (fun h => by omega) _ _
 ·
  have H1 := q4z (show s[k + 1]? = some 123 by have := HP.out.symm.trans ho; simpa using this);obtain ⟨n, hn⟩ : ∃ n, n = qd6 (s.drop (k + 1 + 1)) := ⟨_, rfl⟩;have hnl : n ≤ s.length - (k + 1 + 1) := by rw [hn]; have := qg5 (s.drop (k + 1 + 1)); simpa using this
  have HN := q4z hn;have HO := q4z ho;have HV := q4z (show varB s k = if n = 0 ∨ 10 < n ∨ s[k + 2 + n]? ≠ some 125 then none else some ((s.drop (k + 1 + 1)).take n, n + 3) by unfold varB; rw [if_pos H1.out, hn]);have HB := q4z (qj3 s (k + 1 + 1 + n) 125);clear hn ho HP;obtain ⟨br, hbr⟩ : ∃ v, [125].isPrefixOf (s.drop (k + 1 + 1 + n)) = v := ⟨_, rfl⟩;have HBR := q4z hbr;have HBR2 := q4z (show [125].isPrefixOf (List.take (s.length - (k + 1 + 1) - n) (List.drop (k + 1 + 1 + n) s)) = br by rw [List.take_of_length_le (by simp; omega)]; exact hbr);have hways : n = 0 ∨ 10 < n ∨ (0 < n ∧ n ≤ 10) := by omega
  rcases hways with h0 | h0 | ⟨h0, h10⟩
  ·have Y := q4z (show varB s k = none by rw [HV.out, if_pos (.inl h0)])
   have hN0 : (n : Int) ≤ 0 := by omega
   clear h0 hbr;go_enter Tryz.func121, Tryz.ntmps121;go_wp2;go_quiet (exact Calls.quiet_of_same (qbv (s.drop (k + 1)) [123] _ HO.out));go_wp2_with (first
    | (go_at_call 149; refine (qc8 (s.drop (k + 1 + 1)) _ (by simp only [List.length_drop]; omega)).mono ?_; rintro e3 w3 ⟨rfl, rfl⟩; rw [← HN.out])
    | (go_at_call 67; refine (qdb _ [125] _).mono ?_; rintro e4 w4 ⟨rfl, rfl⟩; rw [HBR2.out])
    | (go_at_call 43; refine (qah 5 k _).mono ?_; rintro e5 w5 ⟨rfl, rfl⟩))
   refine ⟨rfl, ?_, ?_⟩
   ·rw [Y.out]
    exact ⟨_, rfl, by omega, qag _ _ _ (by simp)⟩
   ·exact (((Fr.refl (fun b => b = g) w).alloc _).alloc _).drewN _ |>.alloc _
  ·have Y := q4z (show varB s k = none by rw [HV.out, if_pos (.inr (.inl h0))])
   have hN0 : (0 : Int) < (n : Int) := by omega
   have hN1 : decide ((n : Int) ≤ 10) = false := by rw [decide_eq_false_iff_not]; omega
   clear h0 hbr;go_enter Tryz.func121, Tryz.ntmps121;go_wp2;go_quiet (exact Calls.quiet_of_same (qbv (s.drop (k + 1)) [123] _ HO.out));go_wp2_with (first
    | (go_at_call 149; refine (qc8 (s.drop (k + 1 + 1)) _ (by simp only [List.length_drop]; omega)).mono ?_; rintro e3 w3 ⟨rfl, rfl⟩; rw [← HN.out])
    | (go_at_call 67; refine (qdb _ [125] _).mono ?_; rintro e4 w4 ⟨rfl, rfl⟩; rw [HBR2.out])
    | (go_at_call 43; refine (qah 5 k _).mono ?_; rintro e5 w5 ⟨rfl, rfl⟩))
   refine ⟨rfl, ?_, ?_⟩
   ·rw [Y.out]
    exact ⟨_, rfl, by omega, qag _ _ _ (by simp)⟩
   ·exact (((Fr.refl (fun b => b = g) w).alloc _).alloc _).drewN _ |>.alloc _
  ·have hN0 : (0 : Int) < (n : Int) := by omega
   have hN1 : (n : Int) ≤ 10 := by omega
   have hnl' : (n : Int) ≤ (s.length - (k + 1 + 1) : Nat) := by omega
   cases br
   ·have Y := q4z (show varB s k = none by
     rw [HV.out, if_pos (.inr (.inr (by intro e; rw [HB.out, show s[k + 1 + 1 + n]? = some 125 from e] at hbr; cases hbr)))])
    clear hbr;go_enter Tryz.func121, Tryz.ntmps121;go_wp2;go_quiet (exact Calls.quiet_of_same (qbv (s.drop (k + 1)) [123] _ HO.out));go_wp2_with (first
     | (go_at_call 149; refine (qc8 (s.drop (k + 1 + 1)) _ (by simp only [List.length_drop]; omega)).mono ?_; rintro e3 w3 ⟨rfl, rfl⟩; rw [← HN.out])
     | (go_at_call 67; refine (qdb _ [125] _).mono ?_; rintro e4 w4 ⟨rfl, rfl⟩; rw [HBR2.out])
     | (go_at_call 43; refine (qah 5 k _).mono ?_; rintro e5 w5 ⟨rfl, rfl⟩))
    refine ⟨rfl, ?_, ?_⟩
    ·rw [Y.out]
     exact ⟨_, rfl, by omega, qag _ _ _ (by simp)⟩
    ·exact (((Fr.refl (fun b => b = g) w).alloc _).alloc _).drewN _ |>.alloc _
   ·have Y := q4z (show varB s k = some ((s.drop (k + 1 + 1)).take n, n + 3) by
     rw [HV.out, if_neg];rintro (h | h | h)
     ·omega
     ·omega
     ·apply h; have := HB.out.symm.trans hbr; simpa using this)
    clear hbr;go_enter Tryz.func121, Tryz.ntmps121;go_wp2;go_quiet (exact Calls.quiet_of_same (qbv (s.drop (k + 1)) [123] _ HO.out));go_wp2_with (first
     | (go_at_call 149; refine (qc8 (s.drop (k + 1 + 1)) _ (by simp only [List.length_drop]; omega)).mono ?_; rintro e3 w3 ⟨rfl, rfl⟩; rw [← HN.out])
     | (go_at_call 67; refine (qdb _ [125] _).mono ?_; rintro e4 w4 ⟨rfl, rfl⟩; rw [HBR2.out])
     | (go_at_call 43; refine (qah 5 k _).mono ?_; rintro e5 w5 ⟨rfl, rfl⟩))
    refine bodyPost_ret (by simp [results, Tryz.results121, go_sem]; try rfl) rfl ?_;refine ⟨?_, ?_⟩
    ·rw [Y.out]
     refine ⟨rfl, ?_⟩;have := ((((((HX.out.alloc (.cells #[.string (S []), .bool false, .int .i64 0] qa4)).alloc (.cells #[.string (S []), .bool true, .int .i64 k] qa4)).drewN nq).far (g' := w.heap.size + 1) 0 (.string (S ((s.drop (k + 1 + 1)).take n))) (by omega)).set (k + (n + 3))).far (g' := w.heap.size) 0 (.string (S ((s.drop (k + 1 + 1)).take n))) (by omega)).far (g' := w.heap.size) 1 (.bool true) (by omega) |>.far (g' := w.heap.size) 2 (.int .i64 k) (by omega)
     rw [show ((k + (n + 3) : Nat) : Int) = (k : Int) + (1 + (n : Int) + 2) by omega] at this;exact this
    ·exact ((((((((Fr.refl (fun b => b = g) w).alloc _).alloc _).drewN _).setCell (fun h => by omega) _ _).setCell (fun _ => rfl) _ _).setCell (fun h => by omega) _ _).setCell (fun h => by omega) _ _).setCell (fun h => by omega) _ _
theorem qlg (s : List UInt8) (w : World) (hl : s.length ≤ 1000000) :
 Calls Tryz.prog 99 #[.string (S s)] w fun e w' => (∃ m : Int, e = .returned (.int .i64 m) ∧ (0 ≤ m ↔ qj9 s = true)) ∧ w = w' := by
 by_cases hs : s.length = 3
 ·have HM := q4z (show qj9 s = quz s by simp [qj9, quz, hs])
  have HS := q4z hs;have hs' : ((s.length : Int) != 3) = false := by rw [hs]; rfl
  have hle : s.length ≤ 3 := by omega
  have hge : 3 ≤ s.length := by omega
  clear hs;go_enter Tryz.func99, Tryz.ntmps99;go_wp2;go_loop [3, 8] (fun n i => ∃ (k : Nat) (m : Nat), k ≤ 3 ∧ i = .int .i64 k ∧ n = .int .i64 m ∧ m + 1 ≤ 8 ^ k ∧ Hid ((s.take k).all octC = true)) (fun n i => 3 - (intOf i).toNat)
  case atStart => exact ⟨0, 0, by omega, rfl, rfl, by simp, by simp [Hid]⟩
  case round =>
   obtain ⟨k, m, hk, rfl, rfl, hm, hall⟩ := hrel;have hm8 : m < 512 := by
    have : 8 ^ k ≤ 8 ^ 3 := Nat.pow_le_pow_right (by omega) hk;omega
   by_cases hk3 : k < 3
   ·have hlt : k < s.length := by omega
    have hL := q0f s[k];have hb := q3r s[k];cases hok : octC s[k]
    ·have HA := q4z (show quz s = false by
      unfold quz;rw [List.all_eq_false]; exact ⟨s[k], List.getElem_mem hlt, by simp [hok]⟩)
     have hn : ¬ (48 ≤ (s[k].toNat : Int) ∧ (s[k].toNat : Int) ≤ 55) := fun h => by rw [hL.2 h] at hok; cases hok
     clear hok hL hall;go_wp2
     all_goals first
      | (go_ret; exact ⟨⟨_, rfl, by rw [HM.out, HA.out]; simp⟩, rfl⟩)
      | (exfalso; simp only [Bool.not_eq_true', Bool.not_eq_false', bne_iff_ne, bne_eq_false_iff_eq, beq_iff_eq, beq_eq_false_iff_ne, decide_eq_true_eq, decide_eq_false_iff_not, ne_eq] at *; omega)
    ·have HA := q4z (show (s.take (k + 1)).all octC = true by rw [qko _ _ _ hlt, hall.out, hok]; rfl)
     obtain ⟨n1, n2⟩ := hL.1 hok;have hp : m * 8 + (s[k].toNat - 48) + 1 ≤ 8 ^ (k + 1) := by rw [Nat.pow_succ]; omega
     clear hok hL hall;go_wp2
     all_goals first
      | (go_round; (case rel => exact ⟨k + 1, m * 8 + (s[k].toNat - 48), by omega, by go_num, by go_num, hp, HA⟩); (case measure => simp [intOf]; omega))
      | (exfalso; simp only [Bool.not_eq_true', Bool.not_eq_false', bne_iff_ne, bne_eq_false_iff_eq, beq_iff_eq, beq_eq_false_iff_ne, decide_eq_true_eq, decide_eq_false_iff_not, ne_eq] at *; omega)
   ·have HA := q4z (show quz s = true by
     unfold quz;have := hall.out;rwa [List.take_of_length_le (by omega)] at this)
    clear hall;go_wp2;go_ret;exact ⟨⟨_, rfl, by rw [HM.out, HA.out]; simp⟩, rfl⟩
 ·have HM := q4z (show qj9 s = false by simp [qj9, hs])
  have hs' : ((s.length : Int) != 3) = true := by rw [bne_iff_ne]; omega
  clear hs;go_enter Tryz.func99, Tryz.ntmps99;go_wp2;go_ret;exact ⟨⟨-1, rfl, by rw [HM.out]; simp⟩, rfl⟩
theorem qfl (s : List UInt8) (w : World) (hl : s.length ≤ 1000000) :
 Calls Tryz.prog 155 #[.string (S s)] w fun e w' => e = .returned (.bool (qg4 s)) ∧ w = w' := by
 have hle := qg5 s;by_cases h0 : s = []
 ·subst h0
  go_enter Tryz.func155, Tryz.ntmps155;go_wp2;go_ret;exact ⟨rfl, rfl⟩
 have h0' : s.isEmpty = false := by cases s <;> simp_all
 have hne : (s == []) = false := by simpa using h0
 obtain ⟨n, hn⟩ : ∃ n, qd6 s = n := ⟨_, rfl⟩;have HN := q4z hn;rw [hn] at hle;have HV := q4z (show qg4 s = (decide (n = s.length) && decide (s.length ≤ 10)) by unfold qg4; rw [h0', hn]; rfl);clear hn h0;by_cases h1 : n = s.length
 ·have h1' : ((n : Int) == (s.length : Int)) = true := by rw [h1]; simp
  have H1 := q4z h1;clear h1;go_enter Tryz.func155, Tryz.ntmps155;go_wp2_with (go_at_call 149; refine (qc8 s _ (by omega)).mono ?_; rintro e3 w3 ⟨rfl, rfl⟩; rw [HN.out])
  go_ret;exact ⟨qau (by rw [HV.out, H1.out]; simp; try omega), rfl⟩
 ·have h1' : ((n : Int) == (s.length : Int)) = false := by rw [beq_eq_false_iff_ne]; omega
  have H1 := q4z h1;clear h1;go_enter Tryz.func155, Tryz.ntmps155;go_wp2_with (go_at_call 149; refine (qc8 s _ (by omega)).mono ?_; rintro e3 w3 ⟨rfl, rfl⟩; rw [HN.out])
  go_ret;exact ⟨qau (by rw [HV.out]; simp [H1.out]), rfl⟩
theorem qnm {B b : Nat} {l : List UInt8} {c : UInt8} {w : World} (h : Bld B b l w) (hlen : l.length + 1 ≤ 4000000000) (hBw : B ≤ w.heap.size) :
 Calls Tryz.prog 48 #[.pointer (some ⟨b, 0, none⟩), .int .u8 c.toNat] w fun e w' => e = .returned .nilIface ∧ Bld B b (l ++ [c]) w' ∧ Below B w w' ∧ KeepBy w w' := by
 obtain ⟨i0, hi, hz0, hz1, hz2⟩ := info_parts (show (Tryz.prog.info? qgn).map (fun i => (i.zero, i.size, i.bytes)) = some (some (.int .u8 0), 1, 1) by kernel_rfl);have hll : (Lib.byteCells l).length = l.length := Lib.byteCells_length l;have HS := q4z hBw;have HH := q4z h;clear h hBw;go_enter Tryz.func48, Tryz.ntmps48;go_wp2_with fail;refine (qi2 HH.out).mono ?_;rintro e1 w1 ⟨rfl, h1, hb1, hs1, hk1⟩;have HK1 := q4z hk1;clear hk1;obtain ⟨hB, v, hbk, hown, hne⟩ := h1;have HS1 := q4z hs1;have HB := q4z hB;have HBK := q4z hbk;have HO := q4z hown;have HN := q4z hne;have c0 : w1.cell? ⟨b, 0, none⟩ = some (.pointer (some ⟨b, 0, none⟩)) := by rw [Lib.cell_of_heap hbk]; rfl
 have c1 : w1.cell? ⟨b, 1, none⟩ = some v := by rw [Lib.cell_of_heap hbk]; rfl
 have f1 : w1.frozen? ⟨b, 1, none⟩ = false := Lib.frozen_of_heap hbk 1;have hlt : b < w1.heap.size := q40 w1 _ c0;clear hB hbk hown hne hs1
 go_wp2_with (at_builtin; refine wpList_append_own _ rfl _ _ 113 rfl B qgn i0 (.int .u8 0) 1 1 Tryz.underlying113 hi hz0 hz1 hz2 rfl (by decide) _ _ _ rfl (HO.out.alloc _) ⟨w1.heap.size, 0, none⟩ 1 1 [.int .u8 c.toNat] rfl rfl (cell_one_new _ _ _) (by simp [Value.oneCell']) (by rw [hll]; unfold maxLen; omega) (by rw [hll]; omega) (by have := HS1.out; have := HS.out; simp; omega) ?_; intro v' w2 hown2 hgr2 _; have HO2 := q4z hown2; have HG2 := q4z hgr2; obtain ⟨g, cap, rfl⟩ := qad hown2; have hb2 : w2.heap[b]? = some (.cells #[.pointer (some ⟨b, 0, none⟩), v] tBld (0, 0)) := (by rw [hgr2.block b (by simp; omega) (fun e => HN.out e.symm), Lib.alloc_old w1 _ b hlt]; exact HBK.out); have HB2 := q4z hb2; have d1 : w2.cell? ⟨b, 1, none⟩ = some v := (by rw [Lib.cell_of_heap hb2]; rfl); have f2 : w2.frozen? ⟨b, 1, none⟩ = false := Lib.frozen_of_heap hb2 1; clear hown2 hgr2 hb2)
 go_ret;have hb1' := hb1;refine ⟨rfl, .inr ?_, ?_, fun T ht1 ht2 => ?_⟩
 ·refine Lib.BuilderAt.put (T := tBld) (e := qgn) HB.out HB2.out (bs' := Lib.byteCells (l ++ [c])) ?_ (by decide)
  have h3 := HO2.out;rw [hll] at h3;rw [show Lib.byteCells (l ++ [c]) = Lib.byteCells l ++ [.int .u8 c.toNat] from by simp [Lib.byteCells], List.length_append, hll];exact h3
 ·exact ((hb1.alloc (by have := HS1.out; have := HS.out; omega) _).grown HG2.out (by have := HS1.out; have := HS.out; simp; omega) (fun k hk => (HO.out.lt k hk).1)).setCell (p := ⟨b, 1, none⟩) HB.out _
 ·exact (HK1.out T ht1 ht2).trans ((KeepT.below ((Below.refl _ _).alloc (Nat.le_refl _) _)).trans ((KeepT.grown HG2.out (HO.out.alloc _) (fun e => ht1 e.symm)).trans (KeepT.setCell HB2.out (fun e => ht2 e.symm) 1 _)))
theorem qcz {B b : Nat} {l : List UInt8} {c : UInt8} {v : Int} {w : World} (hv : v = (c.toNat : Int)) (h : Bld B b l w) (hlen : l.length + 1 ≤ 4000000000) (hBw : B ≤ w.heap.size) :
 Calls Tryz.prog 48 #[.pointer (some ⟨b, 0, none⟩), .int .u8 v] w fun e w' => e = .returned .nilIface ∧ Bld B b (l ++ [c]) w' ∧ Below B w w' ∧ KeepBy w w' := by
 subst hv; exact qnm h hlen hBw
end Go.Proofs.YtikdblkfjchjbaaGreatDoor
