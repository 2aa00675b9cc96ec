/-
  Words that all texts of this seat use: a Go string by its bytes, a row of cells that is read, classes of bytes.
-/
import Derived.Test.YtkooakadckjpkaaGreatDoorProg
import Derived.WalkKit
import Derived.WalkSpells
import Derived.WalkLawsBesides
import Derived.Lib.Hide
import Derived.Lib.Strings
namespace Go.Proofs.YtkooakadckjpkaaGreatDoor
open Go.RowKit

/-- a Go string by its bytes -/
def S (l : List UInt8) : ByteArray := ⟨l.toArray⟩
theorem S_size (l : List UInt8) : (S l).size = l.length := by simp [S, ByteArray.size]
theorem S_toList (l : List UInt8) : (S l).toList = l := by rw [Lib.toList_data]; simp [S]
theorem S_data (l : List UInt8) : (S l).data.toList = l := by simp [S]
theorem S_of (s : ByteArray) : S s.data.toList = s := by apply ByteArray.ext; simp [S]
theorem S_mk (l : List UInt8) : (⟨l.toArray⟩ : ByteArray) = S l := rfl
theorem S_get (l : List UInt8) (k : Nat) (h : k < (S l).size) : (S l)[k] = l[k]'(by simpa [S_size] using h) := by simp [S, ByteArray.getElem_eq_getElem_data]
theorem S_inj {l m : List UInt8} (h : S l = S m) : l = m := by rw [← S_toList l, h, S_toList]
theorem S_append (l m : List UInt8) : S l ++ S m = S (l ++ m) := by
  apply ByteArray.ext; simp [S, ByteArray.data_append]
theorem S_extract (l : List UInt8) (a b : Nat) : (S l).extract a b = S ((l.drop a).take (b - a)) := by
  apply ByteArray.ext
  simp [S, ByteArray.data_extract, List.extract_toArray]
theorem take_rest (l : List UInt8) (a : Nat) : List.take (l.length - a) (List.drop a l) = List.drop a l := List.take_of_length_le (by simp)
attribute [go_sem] take_rest
attribute [simp] take_rest
attribute [go_sem] S_mk S_size S_toList S_get S_append S_extract
attribute [simp] S_mk S_size S_toList S_get S_append S_extract

theorem ret_bool {a b : Bool} (h : a = b) : Ending.returned (.bool a) = .returned (.bool b) := by rw [h]
theorem ret_str {a b : List UInt8} (h : a = b) : Ending.returned (.string (S a)) = .returned (.string (S b)) := by rw [h]
theorem ret_int {k : IntKind} {a b : Int} (h : a = b) : Ending.returned (.int k a) = .returned (.int k b) := by rw [h]
theorem str_eq {a b : List UInt8} (h : a = b) : Value.string (S a) = .string (S b) := by rw [h]
theorem int_eq {k : IntKind} {a b : Int} (h : a = b) : Value.int k a = .int k b := by rw [h]
theorem bool_eq {a b : Bool} (h : a = b) : Value.bool a = .bool b := by rw [h]

/-- the cells cs lie one behind the other from A on -/
def Rd (w : World) (A : Option Addr) (cs : List Value) : Prop :=
  cs = [] ∨ ∃ b o, A = some ⟨b, o, none⟩ ∧ ∀ (i : Nat) (u : Value), cs[i]? = some u → w.cell? ⟨b, o + i, none⟩ = some u

theorem Rd.at {w : World} {A : Option Addr} {cs : List Value} (h : Rd w A cs) (i : Nat) (hi : i < cs.length) :
    ∃ b o, A = some ⟨b, o, none⟩ ∧ b < w.heap.size ∧ ∀ (j : Nat) (u : Value), cs[j]? = some u → w.cell? ⟨b, o + j, none⟩ = some u := by
  rcases h with rfl | ⟨b, o, rfl, hc⟩
  · simp at hi
  · exact ⟨b, o, rfl, World.block_lt_of_cell? w _ (hc i _ (List.getElem?_eq_getElem hi)), hc⟩

theorem Rd.below {w w' : World} {A : Option Addr} {cs : List Value} (h : Rd w A cs) (hb : Below w.heap.size w w') : Rd w' A cs := by
  rcases h with rfl | ⟨b, o, rfl, hc⟩
  · exact .inl rfl
  · refine .inr ⟨b, o, rfl, fun i u hu => ?_⟩
    rw [hb.cell (World.block_lt_of_cell? w _ (hc i u hu))]
    exact hc i u hu

theorem Rd.of_own {w : World} {base : Nat} {e : TypeId} {size : Nat} {v : Value} {n : Nat} {xs : List Value} (h : w.ownsRow base e size v n xs) :
    ∃ A cap, v = .slice A n cap ∧ n ≤ cap ∧ cap ≤ maxLen ∧ Rd w A xs := by
  have h0 := h
  obtain ⟨h1, h2⟩ := h
  rcases h2 with ⟨rfl, rfl⟩ | ⟨g, cap, cur, rfl, hg, hh, hn, hm, r1, r2⟩
  · refine ⟨none, 0, rfl, Nat.le_refl _, Nat.zero_le _, .inl ?_⟩
    simpa using h1
  · refine ⟨_, _, rfl, hn, hm, .inr ⟨g, 0, rfl, fun i u hu => ?_⟩⟩
    have := h0.cellAt i (by rw [← h1]; exact (List.getElem?_eq_some_iff.1 hu).1)
    simpa [this] using hu

/-- a []string that the call has made -/
def strs (l : List (List UInt8)) : List Value := l.map fun x => .string (S x)
theorem strs_len (l : List (List UInt8)) : (strs l).length = l.length := by simp [strs]
theorem strs_get {l : List (List UInt8)} {i : Nat} (h : i < l.length) : (strs l)[i]? = some (.string (S l[i])) := by simp [strs, h]

theorem bcell {W w1 : World} (hb : Below W.heap.size W w1) : (∀ b o, b < W.heap.size → w1.cell? ⟨b, o, none⟩ = W.cell? ⟨b, o, none⟩) ∧ (∀ b o, b < W.heap.size → w1.frozen? ⟨b, o, none⟩ = W.frozen? ⟨b, o, none⟩) :=
  ⟨fun b o h => hb.cell (p := ⟨b, o, none⟩) h, fun b o h => hb.frozen (p := ⟨b, o, none⟩) h⟩

/-- a row of one new cell -/
theorem cell_new1 (w : World) (a : Value) (t : TypeId) : ∀ j u, [a][j]? = some u → (w.alloc (.cells #[a] t)).cell? ((⟨w.heap.size, 0, none⟩ : Addr).add j) = some u := by
  intro j u h
  match j, h with
  | 0, h => simp at h; subst h; simp [Addr.add]

def classB (c : UInt8) : Bool := (97 ≤ c && c ≤ 122) || (65 ≤ c && c ≤ 90) || (48 ≤ c && c ≤ 57) || c == 46 || c == 95 || c == 45
theorem classB_iff (c : UInt8) : classB c = true ↔ ((97 ≤ (c.toNat : Int) ∧ (c.toNat : Int) ≤ 122) ∨ (65 ≤ (c.toNat : Int) ∧ (c.toNat : Int) ≤ 90) ∨ (48 ≤ (c.toNat : Int) ∧ (c.toNat : Int) ≤ 57) ∨ (c.toNat : Int) = 46 ∨ (c.toNat : Int) = 95 ∨ (c.toNat : Int) = 45) := by
  simp only [classB, Bool.or_eq_true, Bool.and_eq_true, decide_eq_true_eq, beq_iff_eq, UInt8.le_iff_toNat_le, ← UInt8.toNat_inj]
  simp
  omega
theorem u8_lt (c : UInt8) : (c.toNat : Int) < 256 := by have := c.toNat_lt; omega
theorem u8_eq {c d : UInt8} : c = d ↔ (c.toNat : Int) = (d.toNat : Int) := by rw [← UInt8.toNat_inj]; omega
theorem all_snoc {α : Type} (p : α → Bool) (s : List α) (k : Nat) (h : k < s.length) : (s.take (k + 1)).all p = ((s.take k).all p && p s[k]) := by
  rw [List.take_succ_eq_append_getElem h, List.all_append]; simp

def elementB (s : List UInt8) : Bool := !s.isEmpty && decide (s.length ≤ 60) && !(s == [46]) && !(s == [46, 46]) && !([46, 119, 104, 46].isPrefixOf s) && s.all classB

/-- a text cut at a byte -/
def cutB (c : UInt8) : List UInt8 → List (List UInt8)
  | [] => [[]]
  | x :: r => if x = c then [] :: cutB c r else match cutB c r with
    | [] => [[x]]
    | h :: t => (x :: h) :: t
theorem cutB_ne (c : UInt8) (s : List UInt8) : cutB c s ≠ [] := by
  cases s with
  | nil => simp [cutB]
  | cons x r =>
    rw [cutB]
    split
    · simp
    · split <;> simp
theorem cutB_len (c : UInt8) (s : List UInt8) : (cutB c s).length ≤ s.length + 1 := by
  induction s with
  | nil => simp [cutB]
  | cons x r ih =>
    rw [cutB]
    split
    · simp; exact ih
    · split
      · simp
      · rename_i h t e
        rw [e] at ih; simp at ih ⊢; omega
/-- what is cut, a piece at a time: behind a piece without the byte -/
theorem cutB_piece (c : UInt8) (p r : List UInt8) (h : c ∉ p) : cutB c (p ++ c :: r) = p :: cutB c r := by
  induction p with
  | nil => simp [cutB]
  | cons x p ih =>
    have hx : x ≠ c := fun e => h (e ▸ List.mem_cons_self)
    rw [List.cons_append, cutB, if_neg hx, ih (fun e => h (List.mem_cons_of_mem _ e))]
theorem cutB_last (c : UInt8) (p : List UInt8) (h : c ∉ p) : cutB c p = [p] := by
  induction p with
  | nil => simp [cutB]
  | cons x p ih =>
    have hx : x ≠ c := fun e => h (e ▸ List.mem_cons_self)
    rw [cutB, if_neg hx, ih (fun e => h (List.mem_cons_of_mem _ e))]

/-- elements with slashes between -/
def joinB : List (List UInt8) → List UInt8
  | [] => []
  | [x] => x
  | x :: y :: r => x ++ 47 :: joinB (y :: r)
theorem joinB_snoc (l : List (List UInt8)) (x : List UInt8) (h : l ≠ []) : joinB (l ++ [x]) = joinB l ++ 47 :: x := by
  induction l with
  | nil => exact absurd rfl h
  | cons a l ih =>
    cases l with
    | nil => simp [joinB]
    | cons b r =>
      have := ih (by simp)
      simp only [List.cons_append, joinB] at this ⊢
      rw [this]; simp
theorem joinB_take (l : List (List UInt8)) (k : Nat) (h : k < l.length) : joinB (l.take (k + 1)) = if k = 0 then l[k] else joinB (l.take k) ++ 47 :: l[k] := by
  rw [List.take_succ_eq_append_getElem h]
  split
  · rename_i h0; subst h0; simp [joinB]
  · rename_i h0
    exact joinB_snoc _ _ (by intro e; have := congrArg List.length e; rw [List.length_take, List.length_nil] at this; omega)
theorem joinB_take1 (l : List (List UInt8)) (k : Nat) (h : k < l.length) (h0 : 0 < k) : joinB (l.take (k + 1)) = joinB (l.take k) ++ 47 :: l[k] := by
  rw [joinB_take l k h, if_neg (by omega)]
theorem joinB_take0 (l : List (List UInt8)) (k : Nat) (h : k < l.length) (h0 : ¬ 0 < k) : joinB (l.take (k + 1)) = joinB (l.take k) ++ l[k] := by
  rw [joinB_take l k h, if_pos (by omega)]
  obtain rfl : k = 0 := by omega
  simp [joinB]
/-- bytes of elements and what stands between -/
def lensB : List (List UInt8) → Nat
  | [] => 0
  | x :: r => x.length + 1 + lensB r
theorem lensB_app (l m : List (List UInt8)) : lensB (l ++ m) = lensB l + lensB m := by
  induction l with
  | nil => simp [lensB]
  | cons a l ih => simp only [List.cons_append, lensB, ih]; omega
theorem joinB_len (l : List (List UInt8)) : (joinB l).length ≤ lensB l := by
  induction l with
  | nil => simp [joinB, lensB]
  | cons a l ih =>
    cases l with
    | nil => simp [joinB, lensB]
    | cons b r => simp only [joinB, lensB, List.length_append, List.length_cons] at ih ⊢; omega
theorem lensB_take (l : List (List UInt8)) (k : Nat) : lensB (l.take k) ≤ lensB l := by
  have := lensB_app (l.take k) (l.drop k)
  rw [List.take_append_drop] at this; omega
theorem lensB_get (l : List (List UInt8)) (k : Nat) (h : k < l.length) : lensB (l.take k) + l[k].length + 1 ≤ lensB l := by
  have := lensB_take l (k + 1)
  rw [List.take_succ_eq_append_getElem h, lensB_app] at this
  simp only [lensB] at this ⊢; omega
theorem lensB_cut (c : UInt8) (s : List UInt8) : lensB (cutB c s) ≤ s.length + 1 := by
  induction s with
  | nil => simp [cutB, lensB]
  | cons x r ih =>
    rw [cutB]
    split
    · simp [lensB] at ih ⊢; omega
    · split
      · simp [lensB]
      · rename_i h t e
        rw [e] at ih; simp [lensB] at ih ⊢; omega
def partsB (p : List UInt8) : List (List UInt8) := if p = [] then [] else cutB 47 p
theorem partsB_len (p : List UInt8) : (partsB p).length ≤ p.length + 1 := by
  unfold partsB; split
  · simp
  · exact cutB_len _ _
def pathB (p : List UInt8) : Bool := decide (p.length ≤ 170) && decide ((partsB p).length ≤ 12) && (partsB p).all elementB
end Go.Proofs.YtkooakadckjpkaaGreatDoor
