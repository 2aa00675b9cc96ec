/-
  Plain words: an archive's entry, as the document's answer has it. No program in sight.
-/
import Derived.Test.YtkooakadckjpkaaGreatDoorBar
namespace Go.Proofs.YtkooakadckjpkaaGreatDoor

/-- a number in octal digits -/
def octB (n : Nat) : List UInt8 := if n < 8 then [UInt8.ofNat (48 + n)] else octB (n / 8) ++ [UInt8.ofNat (48 + n % 8)]
theorem octB_small {n : Nat} (h : n < 8) : octB n = [UInt8.ofNat (48 + n)] := by rw [octB, if_pos h]
theorem octB_big {n : Nat} (h : ¬ n < 8) : octB n = octB (n / 8) ++ [UInt8.ofNat (48 + n % 8)] := by rw [octB, if_neg h]
theorem octB_pos (n : Nat) : 0 < (octB n).length := by
  by_cases h : n < 8
  · rw [octB_small h]; simp
  · rw [octB_big h]; simp
theorem octB_len (n : Nat) (k : Nat) (h : n < 8 ^ (k + 1)) : (octB n).length ≤ k + 1 := by
  induction k generalizing n with
  | zero => rw [octB_small (by simpa using h)]; simp
  | succ k ih =>
    by_cases h8 : n < 8
    · rw [octB_small h8]; simp
    · rw [octB_big h8]
      have := ih (n / 8) (by rw [Nat.div_lt_iff_lt_mul (by omega)]; rw [Nat.pow_succ] at h; exact h)
      simp only [List.length_append, List.length_singleton]; omega

/-- a text, and noughts behind it -/
def filB (s : List UInt8) (n : Nat) : List UInt8 := s ++ List.replicate (n - s.length) 0
theorem filB_len (s : List UInt8) (n : Nat) (h : s.length ≤ n) : (filB s n).length = n := by simp [filB]; omega
/-- a number in n octal digits, and a nought -/
def digB (v n : Nat) : List UInt8 := List.replicate (n - (octB v).length) 48 ++ octB v ++ [0]
theorem digB_len (v n : Nat) (h : (octB v).length ≤ n) : (digB v n).length = n + 1 := by simp [digB]; omega

/-- the name that a change has in an archive -/
def namB (c : Ent) : List UInt8 :=
  if c.kind = 1 then c.path ++ [47] else if c.kind = 4 then inB (upB c.path).1 ([46, 119, 104, 46] ++ (upB c.path).2)
  else if c.kind = 5 then inB c.path [46, 119, 104, 46, 46, 119, 104, 46, 46, 111, 112, 113] else c.path

/-- the first slash behind which at most a hundred bytes stand, from place i on -/
def slashB (s : List UInt8) (i : Nat) : Nat :=
  if h : i < s.length then (if s[i] = 47 ∧ s.length - i - 1 ≤ 100 then i else slashB s (i + 1)) else s.length
termination_by s.length - i
theorem slashB_here {s : List UInt8} {i : Nat} (h : i < s.length) (h1 : s[i] = 47) (h2 : s.length - i - 1 ≤ 100) : slashB s i = i := by rw [slashB, dif_pos h, if_pos ⟨h1, h2⟩]
theorem slashB_next {s : List UInt8} {i : Nat} (h : i < s.length) (h1 : ¬ (s[i] = 47 ∧ s.length - i - 1 ≤ 100)) : slashB s i = slashB s (i + 1) := by rw [slashB, dif_pos h, if_neg h1]
theorem slashB_end {s : List UInt8} {i : Nat} (h : ¬ i < s.length) : slashB s i = s.length := by rw [slashB, dif_neg h]
/-- a name in two -/
def splB (s : List UInt8) : List UInt8 × List UInt8 :=
  if s.length ≤ 100 then ([], s) else if slashB s 0 < s.length then (s.take (slashB s 0), s.drop (slashB s 0 + 1)) else ([], s)

def sumB (l : List UInt8) : Nat := (l.map UInt8.toNat).sum
theorem sumB_le (l : List UInt8) : sumB l ≤ l.length * 255 := by
  induction l with
  | nil => simp [sumB]
  | cons c r ih => have := c.toNat_lt; simp only [sumB, List.map_cons, List.sum_cons, List.length_cons] at *; omega
theorem sumB_take (l : List UInt8) (k : Nat) (h : k < l.length) : sumB (l.take (k + 1)) = sumB (l.take k) + l[k].toNat := by
  rw [List.take_succ_eq_append_getElem h]; simp only [sumB, List.map_append, List.sum_append, List.map_cons, List.map_nil, List.sum_cons, List.sum_nil, Nat.add_zero]
theorem sumB_app (l m : List UInt8) : sumB (l ++ m) = sumB l + sumB m := by simp [sumB]

def flagB (c : Ent) : UInt8 := if c.kind = 1 then 53 else if c.kind = 3 then 50 else 48
def linkB (c : Ent) : List UInt8 := if c.kind = 3 then c.data else []
def dataB (c : Ent) : List UInt8 := if c.kind = 2 then c.data else []
def headB (c : Ent) : List UInt8 :=
  filB (splB (namB c)).2 100 ++ digB c.mode.toNat 7 ++ digB 0 7 ++ digB 0 7 ++ digB (dataB c).length 11 ++ digB 0 11
def tailB (c : Ent) : List UInt8 :=
  flagB c :: filB (linkB c) 100 ++ [117, 115, 116, 97, 114, 0, 48, 48] ++ filB [] 64 ++ digB 0 7 ++ digB 0 7 ++ filB (splB (namB c)).1 155 ++ filB [] 12
def totB (c : Ent) : Nat := 256 + sumB (headB c) + sumB (tailB c)
/-- a change's bytes -/
def entB (c : Ent) : List UInt8 :=
  headB c ++ digB (totB c) 6 ++ [32] ++ tailB c ++ dataB c ++ filB [] ((512 - (dataB c).length % 512) % 512)
/-- an archive -/
def packB (l : List Ent) : List UInt8 := (l.map entB).flatten ++ filB [] 1024
end Go.Proofs.YtkooakadckjpkaaGreatDoor
