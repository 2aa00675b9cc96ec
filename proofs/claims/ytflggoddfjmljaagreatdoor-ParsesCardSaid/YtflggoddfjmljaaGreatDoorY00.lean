/-
  Words that all texts of this seat use: a Go string by its bytes, a row of cells that is read, classes of bytes.
  Plain words on build files: names of variables, words, lines, by their bytes. No program in sight.
  The document's answer: names, variables, where a line ends and goes on.
-/
import Derived.Test.YtflggoddfjmljaaGreatDoorProg
import Derived.WalkKit
import Derived.WalkSpells
import Derived.WalkLawsBesides
import Derived.Lib.Hide
import Derived.Lib.Strings
set_option linter.unusedVariables false
set_option linter.unusedSimpArgs false
namespace Go.Proofs.YtflggoddfjmljaaGreatDoor
open Go.RowKit

/-- a Go string by its bytes -/
def S (l : List UInt8) : ByteArray := ⟨l.toArray⟩
theorem S_size (l : List UInt8) : (S l).size = l.length := by simp [S, ByteArray.size]
theorem S_toList (l : List UInt8) : (S l).toList = l := by rw [Lib.toList_data]; simp [S]
theorem S_data (l : List UInt8) : (S l).data.toList = l := by simp [S]
theorem S_of (s : ByteArray) : S s.data.toList = s := by apply ByteArray.ext; simp [S]
theorem S_mk (l : List UInt8) : (⟨l.toArray⟩ : ByteArray) = S l := rfl
theorem S_get (l : List UInt8) (k : Nat) (h : k < (S l).size) : (S l)[k] = l[k]'(by simpa [S_size] using h) := by simp [S, ByteArray.getElem_eq_getElem_data]
theorem S_inj {l m : List UInt8} (h : S l = S m) : l = m := by rw [← S_toList l, h, S_toList]
theorem S_append (l m : List UInt8) : S l ++ S m = S (l ++ m) := by
  apply ByteArray.ext; simp [S, ByteArray.data_append]
theorem S_extract (l : List UInt8) (a b : Nat) : (S l).extract a b = S ((l.drop a).take (b - a)) := by
  apply ByteArray.ext
  simp [S, ByteArray.data_extract, List.extract_toArray]
theorem take_rest (l : List UInt8) (a : Nat) : List.take (l.length - a) (List.drop a l) = List.drop a l := List.take_of_length_le (by simp)
attribute [go_sem] take_rest
attribute [simp] take_rest
attribute [go_sem] S_mk S_size S_toList S_get S_append S_extract
attribute [simp] S_mk S_size S_toList S_get S_append S_extract

theorem ret_bool {a b : Bool} (h : a = b) : Ending.returned (.bool a) = .returned (.bool b) := by rw [h]
theorem ret_str {a b : List UInt8} (h : a = b) : Ending.returned (.string (S a)) = .returned (.string (S b)) := by rw [h]
theorem ret_int {k : IntKind} {a b : Int} (h : a = b) : Ending.returned (.int k a) = .returned (.int k b) := by rw [h]
theorem str_eq {a b : List UInt8} (h : a = b) : Value.string (S a) = .string (S b) := by rw [h]
theorem int_eq {k : IntKind} {a b : Int} (h : a = b) : Value.int k a = .int k b := by rw [h]
theorem bool_eq {a b : Bool} (h : a = b) : Value.bool a = .bool b := by rw [h]

/-- the cells cs lie one behind the other from A on -/
def Rd (w : World) (A : Option Addr) (cs : List Value) : Prop :=
  cs = [] ∨ ∃ b o, A = some ⟨b, o, none⟩ ∧ ∀ (i : Nat) (u : Value), cs[i]? = some u → w.cell? ⟨b, o + i, none⟩ = some u

theorem Rd.at {w : World} {A : Option Addr} {cs : List Value} (h : Rd w A cs) (i : Nat) (hi : i < cs.length) :
    ∃ b o, A = some ⟨b, o, none⟩ ∧ b < w.heap.size ∧ ∀ (j : Nat) (u : Value), cs[j]? = some u → w.cell? ⟨b, o + j, none⟩ = some u := by
  rcases h with rfl | ⟨b, o, rfl, hc⟩
  · simp at hi
  · exact ⟨b, o, rfl, World.block_lt_of_cell? w _ (hc i _ (List.getElem?_eq_getElem hi)), hc⟩

theorem Rd.below {w w' : World} {A : Option Addr} {cs : List Value} (h : Rd w A cs) (hb : Below w.heap.size w w') : Rd w' A cs := by
  rcases h with rfl | ⟨b, o, rfl, hc⟩
  · exact .inl rfl
  · refine .inr ⟨b, o, rfl, fun i u hu => ?_⟩
    rw [hb.cell (World.block_lt_of_cell? w _ (hc i u hu))]
    exact hc i u hu

theorem Rd.of_own {w : World} {base : Nat} {e : TypeId} {size : Nat} {v : Value} {n : Nat} {xs : List Value} (h : w.ownsRow base e size v n xs) :
    ∃ A cap, v = .slice A n cap ∧ n ≤ cap ∧ cap ≤ maxLen ∧ Rd w A xs := by
  have h0 := h
  obtain ⟨h1, h2⟩ := h
  rcases h2 with ⟨rfl, rfl⟩ | ⟨g, cap, cur, rfl, hg, hh, hn, hm, r1, r2⟩
  · refine ⟨none, 0, rfl, Nat.le_refl _, Nat.zero_le _, .inl ?_⟩
    simpa using h1
  · refine ⟨_, _, rfl, hn, hm, .inr ⟨g, 0, rfl, fun i u hu => ?_⟩⟩
    have := h0.cellAt i (by rw [← h1]; exact (List.getElem?_eq_some_iff.1 hu).1)
    simpa [this] using hu

/-- a []string that the call has made -/
def strs (l : List (List UInt8)) : List Value := l.map fun x => .string (S x)
theorem strs_len (l : List (List UInt8)) : (strs l).length = l.length := by simp [strs]
theorem strs_get {l : List (List UInt8)} {i : Nat} (h : i < l.length) : (strs l)[i]? = some (.string (S l[i])) := by simp [strs, h]

theorem bcell {W w1 : World} (hb : Below W.heap.size W w1) : (∀ b o, b < W.heap.size → w1.cell? ⟨b, o, none⟩ = W.cell? ⟨b, o, none⟩) ∧ (∀ b o, b < W.heap.size → w1.frozen? ⟨b, o, none⟩ = W.frozen? ⟨b, o, none⟩) :=
  ⟨fun b o h => hb.cell (p := ⟨b, o, none⟩) h, fun b o h => hb.frozen (p := ⟨b, o, none⟩) h⟩

/-- a row of one new cell -/
theorem cell_new1 (w : World) (a : Value) (t : TypeId) : ∀ j u, [a][j]? = some u → (w.alloc (.cells #[a] t)).cell? ((⟨w.heap.size, 0, none⟩ : Addr).add j) = some u := by
  intro j u h
  match j, h with
  | 0, h => simp at h; subst h; simp [Addr.add]

def classB (c : UInt8) : Bool := (97 ≤ c && c ≤ 122) || (65 ≤ c && c ≤ 90) || (48 ≤ c && c ≤ 57) || c == 46 || c == 95 || c == 45
theorem classB_iff (c : UInt8) : classB c = true ↔ ((97 ≤ (c.toNat : Int) ∧ (c.toNat : Int) ≤ 122) ∨ (65 ≤ (c.toNat : Int) ∧ (c.toNat : Int) ≤ 90) ∨ (48 ≤ (c.toNat : Int) ∧ (c.toNat : Int) ≤ 57) ∨ (c.toNat : Int) = 46 ∨ (c.toNat : Int) = 95 ∨ (c.toNat : Int) = 45) := by
  simp only [classB, Bool.or_eq_true, Bool.and_eq_true, decide_eq_true_eq, beq_iff_eq, UInt8.le_iff_toNat_le, ← UInt8.toNat_inj]
  simp
  omega
theorem u8_lt (c : UInt8) : (c.toNat : Int) < 256 := by have := c.toNat_lt; omega
theorem u8_eq {c d : UInt8} : c = d ↔ (c.toNat : Int) = (d.toNat : Int) := by rw [← UInt8.toNat_inj]; omega
theorem all_snoc {α : Type} (p : α → Bool) (s : List α) (k : Nat) (h : k < s.length) : (s.take (k + 1)).all p = ((s.take k).all p && p s[k]) := by
  rw [List.take_succ_eq_append_getElem h, List.all_append]; simp

def elementB (s : List UInt8) : Bool := !s.isEmpty && decide (s.length ≤ 60) && !(s == [46]) && !(s == [46, 46]) && !([46, 119, 104, 46].isPrefixOf s) && s.all classB

/-- a text cut at a byte -/
def cutB (c : UInt8) : List UInt8 → List (List UInt8)
  | [] => [[]]
  | x :: r => if x = c then [] :: cutB c r else match cutB c r with
    | [] => [[x]]
    | h :: t => (x :: h) :: t
theorem cutB_ne (c : UInt8) (s : List UInt8) : cutB c s ≠ [] := by
  cases s with
  | nil => simp [cutB]
  | cons x r =>
    rw [cutB]
    split
    · simp
    · split <;> simp
theorem cutB_len (c : UInt8) (s : List UInt8) : (cutB c s).length ≤ s.length + 1 := by
  induction s with
  | nil => simp [cutB]
  | cons x r ih =>
    rw [cutB]
    split
    · simp; exact ih
    · split
      · simp
      · rename_i h t e
        rw [e] at ih; simp at ih ⊢; omega
/-- what is cut, a piece at a time: behind a piece without the byte -/
theorem cutB_piece (c : UInt8) (p r : List UInt8) (h : c ∉ p) : cutB c (p ++ c :: r) = p :: cutB c r := by
  induction p with
  | nil => simp [cutB]
  | cons x p ih =>
    have hx : x ≠ c := fun e => h (e ▸ List.mem_cons_self)
    rw [List.cons_append, cutB, if_neg hx, ih (fun e => h (List.mem_cons_of_mem _ e))]
theorem cutB_last (c : UInt8) (p : List UInt8) (h : c ∉ p) : cutB c p = [p] := by
  induction p with
  | nil => simp [cutB]
  | cons x p ih =>
    have hx : x ≠ c := fun e => h (e ▸ List.mem_cons_self)
    rw [cutB, if_neg hx, ih (fun e => h (List.mem_cons_of_mem _ e))]

/-- elements with slashes between -/
def joinB : List (List UInt8) → List UInt8
  | [] => []
  | [x] => x
  | x :: y :: r => x ++ 47 :: joinB (y :: r)
theorem joinB_snoc (l : List (List UInt8)) (x : List UInt8) (h : l ≠ []) : joinB (l ++ [x]) = joinB l ++ 47 :: x := by
  induction l with
  | nil => exact absurd rfl h
  | cons a l ih =>
    cases l with
    | nil => simp [joinB]
    | cons b r =>
      have := ih (by simp)
      simp only [List.cons_append, joinB] at this ⊢
      rw [this]; simp
theorem joinB_take (l : List (List UInt8)) (k : Nat) (h : k < l.length) : joinB (l.take (k + 1)) = if k = 0 then l[k] else joinB (l.take k) ++ 47 :: l[k] := by
  rw [List.take_succ_eq_append_getElem h]
  split
  · rename_i h0; subst h0; simp [joinB]
  · rename_i h0
    exact joinB_snoc _ _ (by intro e; have := congrArg List.length e; rw [List.length_take, List.length_nil] at this; omega)
theorem joinB_take1 (l : List (List UInt8)) (k : Nat) (h : k < l.length) (h0 : 0 < k) : joinB (l.take (k + 1)) = joinB (l.take k) ++ 47 :: l[k] := by
  rw [joinB_take l k h, if_neg (by omega)]
theorem joinB_take0 (l : List (List UInt8)) (k : Nat) (h : k < l.length) (h0 : ¬ 0 < k) : joinB (l.take (k + 1)) = joinB (l.take k) ++ l[k] := by
  rw [joinB_take l k h, if_pos (by omega)]
  obtain rfl : k = 0 := by omega
  simp [joinB]
/-- bytes of elements and what stands between -/
def lensB : List (List UInt8) → Nat
  | [] => 0
  | x :: r => x.length + 1 + lensB r
theorem lensB_app (l m : List (List UInt8)) : lensB (l ++ m) = lensB l + lensB m := by
  induction l with
  | nil => simp [lensB]
  | cons a l ih => simp only [List.cons_append, lensB, ih]; omega
theorem joinB_len (l : List (List UInt8)) : (joinB l).length ≤ lensB l := by
  induction l with
  | nil => simp [joinB, lensB]
  | cons a l ih =>
    cases l with
    | nil => simp [joinB, lensB]
    | cons b r => simp only [joinB, lensB, List.length_append, List.length_cons] at ih ⊢; omega
theorem lensB_take (l : List (List UInt8)) (k : Nat) : lensB (l.take k) ≤ lensB l := by
  have := lensB_app (l.take k) (l.drop k)
  rw [List.take_append_drop] at this; omega
theorem lensB_get (l : List (List UInt8)) (k : Nat) (h : k < l.length) : lensB (l.take k) + l[k].length + 1 ≤ lensB l := by
  have := lensB_take l (k + 1)
  rw [List.take_succ_eq_append_getElem h, lensB_app] at this
  simp only [lensB] at this ⊢; omega
theorem lensB_cut (c : UInt8) (s : List UInt8) : lensB (cutB c s) ≤ s.length + 1 := by
  induction s with
  | nil => simp [cutB, lensB]
  | cons x r ih =>
    rw [cutB]
    split
    · simp [lensB] at ih ⊢; omega
    · split
      · simp [lensB]
      · rename_i h t e
        rw [e] at ih; simp [lensB] at ih ⊢; omega
def partsB (p : List UInt8) : List (List UInt8) := if p = [] then [] else cutB 47 p
theorem partsB_len (p : List UInt8) : (partsB p).length ≤ p.length + 1 := by
  unfold partsB; split
  · simp
  · exact cutB_len _ _
def pathB (p : List UInt8) : Bool := decide (p.length ≤ 170) && decide ((partsB p).length ≤ 12) && (partsB p).all elementB
end Go.Proofs.YtflggoddfjmljaaGreatDoor
namespace Go.Proofs.YtflggoddfjmljaaGreatDoor

def letterC (c : UInt8) : Bool := 65 ≤ c && c ≤ 90
def tailC (c : UInt8) : Bool := letterC c || (48 ≤ c && c ≤ 57) || c == 95
theorem letterC_iff (c : UInt8) : letterC c = true ↔ 65 ≤ (c.toNat : Int) ∧ (c.toNat : Int) ≤ 90 := by
  simp only [letterC, Bool.and_eq_true, decide_eq_true_eq, UInt8.le_iff_toNat_le]; simp; omega
theorem tailC_iff (c : UInt8) : tailC c = true ↔ (65 ≤ (c.toNat : Int) ∧ (c.toNat : Int) ≤ 90) ∨ (48 ≤ (c.toNat : Int) ∧ (c.toNat : Int) ≤ 57) ∨ (c.toNat : Int) = 95 := by
  simp only [tailC, letterC, Bool.or_eq_true, Bool.and_eq_true, decide_eq_true_eq, beq_iff_eq, UInt8.le_iff_toNat_le, ← UInt8.toNat_inj]; simp; omega
/-- how many bytes of a name a text begins with -/
def greatB : List UInt8 → Nat
  | [] => 0
  | c :: r => if letterC c then (r.takeWhile tailC).length + 1 else 0
theorem takeWhile_at {p : UInt8 → Bool} (s : List UInt8) (k : Nat) (hk : k ≤ s.length) (h : ∀ j (hj : j < k), p s[j] = true) (hs : ∀ hk : k < s.length, p s[k] = false) : (s.takeWhile p).length = k := by
  induction s generalizing k with
  | nil => simp at hk; simp [hk]
  | cons c r ih =>
    cases k with
    | zero => have := hs (by simp); simp at this; simp [List.takeWhile_cons, this]
    | succ k =>
      have h0 := h 0 (by omega)
      simp at h0
      rw [List.takeWhile_cons, if_pos h0, List.length_cons, ih k (by simpa using hk) (fun j hj => by simpa using h (j + 1) (by omega)) (fun hk => hs (by simpa using hk))]
/-- does the byte at j go on a name -/
def okG (s : List UInt8) (j : Nat) : Bool := match s[j]? with | none => false | some c => if j = 0 then letterC c else tailC c
theorem greatB_at (s : List UInt8) (k : Nat) (hk : k ≤ s.length) (h : ∀ j, j < k → okG s j = true) (hs : okG s k = false) : greatB s = k := by
  cases s with
  | nil => simp at hk; simp [hk, greatB]
  | cons c r =>
    cases k with
    | zero => simp [okG] at hs; simp [greatB, hs]
    | succ k =>
      have h0 := h 0 (by omega)
      simp [okG] at h0
      rw [greatB, if_pos h0, takeWhile_at r k (by simpa using hk)]
      · intro j hj
        have := h (j + 1) (by omega)
        have hjl : j < r.length := by simp at hk; omega
        simp [okG, hjl] at this; exact this
      · intro hk'
        simp [okG, hk'] at hs; exact hs
theorem takeWhile_le (p : UInt8 → Bool) (s : List UInt8) : (s.takeWhile p).length ≤ s.length := by
  induction s with
  | nil => simp
  | cons c r ih => rw [List.takeWhile_cons]; split <;> simp <;> omega
theorem greatB_le (s : List UInt8) : greatB s ≤ s.length := by
  cases s with
  | nil => simp [greatB]
  | cons c r =>
    rw [greatB]; split
    · have := takeWhile_le tailC r; simp; omega
    · simp
def isVarB (s : List UInt8) : Bool := !s.isEmpty && decide (greatB s = s.length) && decide (s.length ≤ 10)

/-- at a $: the name and how many bytes it takes -/
def varB (s : List UInt8) (i : Nat) : Option (List UInt8 × Nat) :=
  if s[i + 1]? = some 123 then
    (let n := greatB (s.drop (i + 2)); if n = 0 ∨ 10 < n ∨ s[i + 2 + n]? ≠ some 125 then none else some ((s.drop (i + 2)).take n, n + 3))
  else
    (let n := greatB (s.drop (i + 1)); if n = 0 ∨ 10 < n then none else some ((s.drop (i + 1)).take n, n + 1))
def stopsB (s : List UInt8) (i : Nat) : Bool := match s[i]? with | none => true | some c => c == 10
def goesB (s : List UInt8) (i : Nat) : Bool := s[i]? == some 92 && s[i + 1]? == some 10

/-- of a word: a byte, or a variable with its place -/
inductive Atm where
  | ch (c : UInt8)
  | var (name : List UInt8) (at_ : Nat)
  deriving DecidableEq
theorem varB_pos {s : List UInt8} {i : Nat} {x : List UInt8} {n : Nat} (h : varB s i = some (x, n)) : 0 < n ∧ i + n ≤ s.length ∧ x ≠ [] ∧ x.length ≤ 10 := by
  have g1 := greatB_le (s.drop (i + 1))
  have g2 := greatB_le (s.drop (i + 2))
  simp only [List.length_drop] at g1 g2
  unfold varB at h
  split at h
  · simp only at h
    split at h
    · cases h
    · rename_i ho hn
      simp only [Option.some.injEq, Prod.mk.injEq] at h
      have h3 : s[i + 2 + greatB (s.drop (i + 2))]? = some 125 := by
        apply Classical.byContradiction; intro h9; exact hn (.inr (.inr h9))
      have h4 := (List.getElem?_eq_some_iff.1 h3).1
      have hl : x.length = greatB (s.drop (i + 2)) := by rw [← h.1, List.length_take, List.length_drop]; omega
      refine ⟨by omega, by omega, ?_, by omega⟩
      intro e; rw [e] at hl; simp at hl; omega
  · simp only at h
    split at h
    · cases h
    · simp only [Option.some.injEq, Prod.mk.injEq] at h
      have hl : x.length = greatB (s.drop (i + 1)) := by rw [← h.1, List.length_take, List.length_drop]; omega
      refine ⟨by omega, by omega, ?_, by omega⟩
      intro e; rw [e] at hl; simp at hl; omega

/-- from a quote at q on, at k: the atoms behind acc, and where it ends; or the place of the fault -/
def quotedB (s : List UInt8) (q k : Nat) (acc : List Atm) : Except Nat (List Atm × Nat) :=
  if h : k < s.length then
    if s[k] = 10 then .error q
    else if s[k] = 34 then .ok (acc, k + 1)
    else if s[k] = 36 then match hv : varB s k with
      | none => .error k
      | some (x, n) => have := varB_pos hv; quotedB s q (k + n) (acc ++ [.var x k])
    else if s[k] = 92 then
      if h1 : k + 1 < s.length then
        if s[k + 1] = 34 ∨ s[k + 1] = 92 ∨ s[k + 1] = 36 then quotedB s q (k + 2) (acc ++ [.ch s[k + 1]]) else .error k
      else .error k
    else quotedB s q (k + 1) (acc ++ [.ch s[k]])
  else .error q
termination_by s.length - k
theorem quotedB_le (s : List UInt8) (q k : Nat) (acc l : List Atm) (n : Nat) (h : quotedB s q k acc = .ok (l, n)) : k < n ∧ n ≤ s.length ∧ l.length + k < n + acc.length := by
  induction hm : s.length - k using Nat.strongRecOn generalizing k acc with
  | ind m ih =>
    rw [quotedB] at h
    split at h
    · split at h
      · cases h
      · split at h
        · simp only [Except.ok.injEq, Prod.mk.injEq] at h; obtain ⟨rfl, rfl⟩ := h; omega
        · split at h
          · split at h
            · cases h
            · rename_i x n' hv
              obtain ⟨v1, v2, v3, v4⟩ := varB_pos hv
              have := ih (s.length - (k + n')) (by omega) _ _ h rfl
              simp at this; omega
          · split at h
            · split at h
              · split at h
                · have := ih (s.length - (k + 2)) (by omega) _ _ h rfl
                  simp at this; omega
                · cases h
              · cases h
            · have := ih (s.length - (k + 1)) (by omega) _ _ h rfl
              simp at this; omega
    · cases h

/-- a word from i on: the atoms behind acc, and where it ends -/
def wordB (s : List UInt8) (i : Nat) (acc : List Atm) : Except Nat (List Atm × Nat) :=
  if h : i < s.length then
    if s[i] = 10 ∨ goesB s i = true ∨ s[i] = 32 then .ok (acc, i)
    else if s[i] = 34 then match hq : quotedB s i (i + 1) [] with
      | .error p => .error p
      | .ok (l, n) => have := quotedB_le _ _ _ _ _ _ hq; wordB s n (acc ++ l)
    else if s[i] = 36 then match hv : varB s i with
      | none => .error i
      | some (x, n) => have := varB_pos hv; wordB s (i + n) (acc ++ [.var x i])
    else if s[i] = 92 then
      if h1 : i + 1 < s.length then wordB s (i + 2) (acc ++ [.ch s[i + 1]]) else .error i
    else wordB s (i + 1) (acc ++ [.ch s[i]])
  else .ok (acc, i)
termination_by s.length - i
end Go.Proofs.YtflggoddfjmljaaGreatDoor
namespace Go.Proofs.YtflggoddfjmljaaGreatDoor
open Go.RowKit

theorem okG_len (s : List UInt8) : okG s s.length = false := by simp [okG]
theorem okG_at (s : List UInt8) (k : Nat) (h : k < s.length) : okG s k = if k = 0 then letterC s[k] else tailC s[k] := by simp [okG, h]

set_option maxHeartbeats 1000000 in
theorem great_any (s : List UInt8) (w : World) (hs : s.length ≤ maxLen) :
    Calls Tryz.prog 48 #[.string (S s)] w fun e w' => e = .returned (.int .i64 (greatB s)) ∧ w = w' := by
  unfold maxLen at hs
  go_enter Tryz.func48, Tryz.ntmps48
  go_wp2
  go_loop [3, 4, 5] (fun i _ _ => ∃ k : Nat, k ≤ s.length ∧ i = .int .i64 k ∧ Hid (∀ j, j < k → okG s j = true)) (fun i _ _ => s.length - (intOf i).toNat)
  case atStart => exact ⟨0, by omega, rfl, by intro j hj; omega⟩
  case round =>
    obtain ⟨k, hk, rfl, hall⟩ := hrel
    by_cases hlt : k < s.length
    · have hL := letterC_iff s[k]
      have hT := tailC_iff s[k]
      have ho := okG_at s k hlt
      cases hok : okG s k
      · have HA := Lib.hid (greatB_at s k (by omega) hall.out hok)
        rw [hok] at ho
        have hn : ¬ (65 ≤ (s[k].toNat : Int) ∧ (s[k].toNat : Int) ≤ 90) ∧ (0 < k → ¬ ((48 ≤ (s[k].toNat : Int) ∧ (s[k].toNat : Int) ≤ 57) ∨ (s[k].toNat : Int) = 95)) := by
          split at ho
          · exact ⟨fun h => (by rw [hL.2 h] at ho; cases ho), by omega⟩
          · exact ⟨fun h => (by rw [hT.2 (.inl h)] at ho; cases ho), fun _ h => (by rw [hT.2 (.inr h)] at ho; cases ho)⟩
        obtain ⟨n1, n2⟩ := hn
        clear hok ho hL hT hall
        go_wp2
        all_goals first
          | (go_ret; exact ⟨ret_int (by rw [HA.out]), rfl⟩)
          | (exfalso; simp only [Bool.not_eq_true', Bool.not_eq_false', bne_iff_ne, bne_eq_false_iff_eq, beq_iff_eq, beq_eq_false_iff_ne, decide_eq_true_eq, decide_eq_false_iff_not, ne_eq] at *; omega)
      · have HA := Lib.hid (show ∀ j, j < k + 1 → okG s j = true by
          intro j hj
          rcases Nat.lt_or_ge j k with h | h
          · exact hall.out j h
          · obtain rfl : j = k := by omega
            exact hok)
        rw [hok] at ho
        have hn : (65 ≤ (s[k].toNat : Int) ∧ (s[k].toNat : Int) ≤ 90) ∨ (0 < k ∧ ((48 ≤ (s[k].toNat : Int) ∧ (s[k].toNat : Int) ≤ 57) ∨ (s[k].toNat : Int) = 95)) := by
          split at ho
          · exact .inl (hL.1 ho.symm)
          · rcases hT.1 ho.symm with h | h
            · exact .inl h
            · exact .inr ⟨by omega, h⟩
        clear hok ho hL hT hall
        go_wp2
        all_goals first
          | (go_round; (case rel => exact ⟨k + 1, by omega, by go_num, HA⟩); (case measure => simp [intOf]; omega))
          | (exfalso; simp only [Bool.not_eq_true', Bool.not_eq_false', bne_iff_ne, bne_eq_false_iff_eq, beq_iff_eq, beq_eq_false_iff_ne, decide_eq_true_eq, decide_eq_false_iff_not, ne_eq] at *; omega)
    · obtain rfl : k = s.length := by omega
      have HA := Lib.hid (greatB_at s s.length (by omega) hall.out (okG_len s))
      clear hall
      go_wp2
      go_ret
      exact ⟨ret_int (by rw [HA.out]), rfl⟩

theorem stops_any (s : List UInt8) (i : Nat) (w : World) (hs : s.length ≤ maxLen) :
    Calls Tryz.prog 22 #[.string (S s), .int .i64 i] w fun e w' => e = .returned (.bool (stopsB s i)) ∧ w = w' := by
  unfold maxLen at hs
  by_cases h : i < s.length
  · have X := Lib.hid (show stopsB s i = (s[i] == 10) by simp [stopsB, h])
    go_enter Tryz.func22, Tryz.ntmps22
    go_wp2
    go_ret
    refine ⟨ret_bool ?_, rfl⟩
    rw [X.out, Bool.eq_iff_iff]; simp [u8_eq]; omega
  · have X := Lib.hid (show stopsB s i = true by simp [stopsB, h])
    replace h : s.length ≤ i := by omega
    go_enter Tryz.func22, Tryz.ntmps22
    go_wp2
    go_ret
    exact ⟨ret_bool X.out.symm, rfl⟩

theorem goes_any (s : List UInt8) (i : Nat) (w : World) (hs : s.length ≤ maxLen) (hi : i ≤ 4294967290) :
    Calls Tryz.prog 21 #[.string (S s), .int .i64 i] w fun e w' => e = .returned (.bool (goesB s i)) ∧ w = w' := by
  unfold maxLen at hs
  by_cases h : i + 1 < s.length
  · have X := Lib.hid (show goesB s i = (s[i] == 92 && s[i + 1] == 10) by simp [goesB, h, show i < s.length by omega])
    by_cases c : s[i] = 92
    · have ci := Lib.hid c
      replace c : ((s[i].toNat : Int) == 92) = true := by rw [c]; rfl
      go_enter Tryz.func21, Tryz.ntmps21
      go_wp2
      go_ret
      refine ⟨ret_bool ?_, rfl⟩
      rw [X.out, ci.out, Bool.eq_iff_iff, beq_iff_eq]; simp [u8_eq]
    · have ci := Lib.hid c
      replace c : ((s[i].toNat : Int) == 92) = false := by rw [beq_eq_false_iff_ne]; intro h; exact c (u8_eq.2 h)
      go_enter Tryz.func21, Tryz.ntmps21
      go_wp2
      go_ret
      refine ⟨ret_bool ?_, rfl⟩
      rw [X.out]; simp [ci.out]
  · have X := Lib.hid (show goesB s i = false by simp [goesB, show s.length ≤ i + 1 by omega])
    replace h : s.length ≤ i + 1 := by omega
    go_enter Tryz.func21, Tryz.ntmps21
    go_wp2
    go_ret
    exact ⟨ret_bool X.out.symm, rfl⟩

theorem isVariable_any (s : List UInt8) (w : World) (hs : s.length ≤ maxLen) :
    Calls Tryz.prog 28 #[.string (S s)] w fun e w' => e = .returned (.bool (isVarB s)) ∧ w = w' := by
  have hs' := hs
  unfold maxLen at hs'
  by_cases h0 : s = []
  · subst h0
    go_enter Tryz.func28, Tryz.ntmps28
    go_wp2_with (go_at_call 48; refine (great_any _ _ hs).mono ?_; rintro e w' ⟨rfl, rfl⟩)
    go_ret
    exact ⟨rfl, rfl⟩
  have f0 : s.isEmpty = false := by cases s <;> simp_all
  have hg := greatB_le s
  by_cases h1 : greatB s = s.length
  · have X := Lib.hid (show isVarB s = decide (s.length ≤ 10) by simp [isVarB, h1, h0])
    go_enter Tryz.func28, Tryz.ntmps28
    go_wp2_with (go_at_call 48; refine (great_any _ _ hs).mono ?_; rintro e w' ⟨rfl, rfl⟩; rw [h1])
    go_ret
    exact ⟨ret_bool (by rw [X.out]; simp; omega), rfl⟩
  · have X := Lib.hid (show isVarB s = false by simp [isVarB, h1])
    have c : ((greatB s : Int) == (s.length : Int)) = false := by rw [beq_eq_false_iff_ne]; omega
    clear h1
    go_enter Tryz.func28, Tryz.ntmps28
    go_wp2_with (go_at_call 48; refine (great_any _ _ hs).mono ?_; rintro e w' ⟨rfl, rfl⟩)
    go_ret
    exact ⟨ret_bool X.out.symm, rfl⟩
end Go.Proofs.YtflggoddfjmljaaGreatDoor
