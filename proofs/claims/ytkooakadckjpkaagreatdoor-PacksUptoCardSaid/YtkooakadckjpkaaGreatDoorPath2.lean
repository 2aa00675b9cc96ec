/-
  Plain words on paths in tree order, on entries and on changes. No program in sight.
-/
import Derived.Test.YtkooakadckjpkaaGreatDoorPath
import Derived.Sort.Walk0
namespace Go.Proofs.YtkooakadckjpkaaGreatDoor

/-- tree order, as the document's answer has it -/
def orderL : List (List UInt8) → List (List UInt8) → Int
  | x :: xs, y :: ys => if x < y then -1 else if y < x then 1 else orderL xs ys
  | xs, ys => (xs.length : Int) - ys.length
/-- tree order, as Go's library has it -/
def compareL : List (List UInt8) → List (List UInt8) → Int
  | [], [] => 0
  | [], _ :: _ => -1
  | _ :: _, [] => 1
  | x :: xs, y :: ys => if x < y then -1 else if y < x then 1 else compareL xs ys
theorem compareL_sign (a b : List (List UInt8)) : (compareL a b = 0 ↔ orderL a b = 0) ∧ (0 < compareL a b ↔ 0 < orderL a b) ∧ (compareL a b < 0 ↔ orderL a b < 0) := by
  induction a generalizing b with
  | nil =>
    cases b with
    | nil => simp [compareL, orderL]
    | cons y ys => simp only [compareL, orderL, List.length_nil, List.length_cons]; omega
  | cons x xs ih =>
    cases b with
    | nil => simp only [compareL, orderL, List.length_nil, List.length_cons]; omega
    | cons y ys =>
      rw [compareL, orderL]
      split
      · simp
      · split
        · simp
        · exact ih ys
theorem compareL_range (a b : List (List UInt8)) : -1 ≤ compareL a b ∧ compareL a b ≤ 1 := by
  induction a generalizing b with
  | nil => cases b <;> simp [compareL]
  | cons x xs ih =>
    cases b with
    | nil => simp [compareL]
    | cons y ys =>
      rw [compareL]
      split
      · simp
      · split
        · simp
        · exact ih ys
/-- Go's comparison of two texts -/
def cmpS (a b : List UInt8) : Int := if a < b then -1 else if b < a then 1 else 0
theorem less_eq (a b : List UInt8) : Op.bytesLess a b = decide (a < b) := _root_.Go.Proofs.bytesLess_eq a b

def inB (dir rest : List UInt8) : List UInt8 := if dir = [] ∨ rest = [] then dir ++ rest else dir ++ 47 :: rest
def belowB (p dir : List UInt8) : Bool := if dir = [] then !p.isEmpty else (dir ++ [47]).isPrefixOf p
/-- the directory that a path is in, and its last element -/
def upB (p : List UInt8) : List UInt8 × List UInt8 := (joinB (partsB p).dropLast, (partsB p).getLastD [])

def visC (c : UInt8) : Bool := 33 ≤ c && c ≤ 126
theorem visC_iff (c : UInt8) : visC c = true ↔ 33 ≤ (c.toNat : Int) ∧ (c.toNat : Int) ≤ 126 := by
  simp only [visC, Bool.and_eq_true, decide_eq_true_eq, UInt8.le_iff_toNat_le]
  simp; omega
def targetB (s : List UInt8) : Bool := s.all visC && (!s.isEmpty && decide (s.length ≤ 100))

/-- an entry, a change -/
structure Ent where
  path : List UInt8
  kind : Int
  mode : Int
  data : List UInt8
  deriving DecidableEq
def Ent.cells (e : Ent) : List Value := [.string (S e.path), .int .i64 e.kind, .int .i64 e.mode, .string (S e.data)]
def Ent.agg (e : Ent) : Value := .agg #[.string (S e.path), .int .i64 e.kind, .int .i64 e.mode, .string (S e.data)]
/-- rows of entries, cell by cell -/
def ents : List Ent → List Value
  | [] => []
  | e :: r => e.cells ++ ents r
theorem ents_len (l : List Ent) : (ents l).length = l.length * 4 := by
  induction l with
  | nil => rfl
  | cons e r ih => simp only [ents, List.length_append, ih, List.length_cons]; simp [Ent.cells]; omega
theorem ents_app (l m : List Ent) : ents (l ++ m) = ents l ++ ents m := by
  induction l with
  | nil => rfl
  | cons e r ih => simp only [List.cons_append, ents, ih, List.append_assoc]
theorem ents_get (l : List Ent) (i : Nat) (h : i < l.length) : (ents l)[i * 4]? = some (.string (S l[i].path)) ∧ (ents l)[i * 4 + 1]? = some (.int .i64 l[i].kind) ∧ (ents l)[i * 4 + 2]? = some (.int .i64 l[i].mode) ∧ (ents l)[i * 4 + 3]? = some (.string (S l[i].data)) := by
  induction l generalizing i with
  | nil => simp at h
  | cons e r ih =>
    cases i with
    | zero => simp [ents, Ent.cells]
    | succ i =>
      have := ih i (by simpa using h)
      have e4 : (i + 1) * 4 = 4 + i * 4 := by omega
      simp only [ents, e4, List.getElem_cons_succ]
      refine ⟨?_, ?_, ?_, ?_⟩
      · rw [List.getElem?_append_right (by simp [Ent.cells])]; simpa [Ent.cells] using this.1
      · rw [List.getElem?_append_right (by simp [Ent.cells]; omega)]; simpa [Ent.cells, Nat.add_assoc] using this.2.1
      · rw [List.getElem?_append_right (by simp [Ent.cells]; omega)]; simpa [Ent.cells, Nat.add_assoc] using this.2.2.1
      · rw [List.getElem?_append_right (by simp [Ent.cells]; omega)]; simpa [Ent.cells, Nat.add_assoc] using this.2.2.2
def modeE (m : Int) : Bool := decide (0 ≤ m ∧ m ≤ 511)
/-- may an entry be, its path aside -/
def goodB (e : Ent) : Bool :=
  if e.kind = 1 then modeE e.mode && e.data.isEmpty
  else if e.kind = 2 then modeE e.mode && decide (e.data.length ≤ 4096)
  else if e.kind = 3 then decide (e.mode = 0) && targetB e.data
  else false
end Go.Proofs.YtkooakadckjpkaaGreatDoor
