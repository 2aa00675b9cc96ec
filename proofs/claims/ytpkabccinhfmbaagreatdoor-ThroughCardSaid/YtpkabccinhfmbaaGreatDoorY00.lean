/-
  Words that all texts of this seat use: a Go string by its bytes, a row of cells that is read, classes of bytes.
  Plain words on paths: what a text names, from a directory on. No program in sight.
  Rows of one's own in memory: their form, what leaves them; what a change of memory leaves, by the type of a block.
  A directory's map in memory: names to nodes.
  What the package-level variables of the library and of the program hold when a call begins, and that calls leave it so.
  Slices that are read: a part of one.
  A row of bytes as cells.
-/
import Derived.Test.YtpkabccinhfmbaaGreatDoorProg
import Derived.WalkKit
import Derived.WalkSpells
import Derived.WalkLawsBesides
import Derived.Lib.Hide
import Derived.Lib.Strings
import Derived.OwnWalk
import Derived.Maps.RangeWalk
import Derived.Maps.OwnSet
import Derived.Maps.Views
import Derived.StringKeys
set_option linter.unusedVariables false
set_option linter.unusedSimpArgs false
namespace Go.Proofs.YtpkabccinhfmbaaGreatDoor
open Go.RowKit

/-- a Go string by its bytes -/
def S (l : List UInt8) : ByteArray := ⟨l.toArray⟩
theorem S_size (l : List UInt8) : (S l).size = l.length := by simp [S, ByteArray.size]
theorem S_toList (l : List UInt8) : (S l).toList = l := by rw [Lib.toList_data]; simp [S]
theorem S_data (l : List UInt8) : (S l).data.toList = l := by simp [S]
theorem S_of (s : ByteArray) : S s.data.toList = s := by apply ByteArray.ext; simp [S]
theorem S_mk (l : List UInt8) : (⟨l.toArray⟩ : ByteArray) = S l := rfl
theorem S_get (l : List UInt8) (k : Nat) (h : k < (S l).size) : (S l)[k] = l[k]'(by simpa [S_size] using h) := by simp [S, ByteArray.getElem_eq_getElem_data]
theorem S_inj {l m : List UInt8} (h : S l = S m) : l = m := by rw [← S_toList l, h, S_toList]
theorem S_append (l m : List UInt8) : S l ++ S m = S (l ++ m) := by
  apply ByteArray.ext; simp [S, ByteArray.data_append]
theorem S_extract (l : List UInt8) (a b : Nat) : (S l).extract a b = S ((l.drop a).take (b - a)) := by
  apply ByteArray.ext
  simp [S, ByteArray.data_extract, List.extract_toArray]
theorem take_rest (l : List UInt8) (a : Nat) : List.take (l.length - a) (List.drop a l) = List.drop a l := List.take_of_length_le (by simp)
attribute [go_sem] take_rest
attribute [simp] take_rest
attribute [go_sem] S_mk S_size S_toList S_get S_append S_extract
attribute [simp] S_mk S_size S_toList S_get S_append S_extract

theorem ret_bool {a b : Bool} (h : a = b) : Ending.returned (.bool a) = .returned (.bool b) := by rw [h]
theorem ret_str {a b : List UInt8} (h : a = b) : Ending.returned (.string (S a)) = .returned (.string (S b)) := by rw [h]
theorem ret_int {k : IntKind} {a b : Int} (h : a = b) : Ending.returned (.int k a) = .returned (.int k b) := by rw [h]
theorem str_eq {a b : List UInt8} (h : a = b) : Value.string (S a) = .string (S b) := by rw [h]
theorem int_eq {k : IntKind} {a b : Int} (h : a = b) : Value.int k a = .int k b := by rw [h]
theorem bool_eq {a b : Bool} (h : a = b) : Value.bool a = .bool b := by rw [h]

/-- the cells cs lie one behind the other from A on -/
def Rd (w : World) (A : Option Addr) (cs : List Value) : Prop :=
  cs = [] ∨ ∃ b o, A = some ⟨b, o, none⟩ ∧ ∀ (i : Nat) (u : Value), cs[i]? = some u → w.cell? ⟨b, o + i, none⟩ = some u

theorem Rd.at {w : World} {A : Option Addr} {cs : List Value} (h : Rd w A cs) (i : Nat) (hi : i < cs.length) :
    ∃ b o, A = some ⟨b, o, none⟩ ∧ b < w.heap.size ∧ ∀ (j : Nat) (u : Value), cs[j]? = some u → w.cell? ⟨b, o + j, none⟩ = some u := by
  rcases h with rfl | ⟨b, o, rfl, hc⟩
  · simp at hi
  · exact ⟨b, o, rfl, World.block_lt_of_cell? w _ (hc i _ (List.getElem?_eq_getElem hi)), hc⟩

theorem Rd.below {w w' : World} {A : Option Addr} {cs : List Value} (h : Rd w A cs) (hb : Below w.heap.size w w') : Rd w' A cs := by
  rcases h with rfl | ⟨b, o, rfl, hc⟩
  · exact .inl rfl
  · refine .inr ⟨b, o, rfl, fun i u hu => ?_⟩
    rw [hb.cell (World.block_lt_of_cell? w _ (hc i u hu))]
    exact hc i u hu

theorem Rd.of_own {w : World} {base : Nat} {e : TypeId} {size : Nat} {v : Value} {n : Nat} {xs : List Value} (h : w.ownsRow base e size v n xs) :
    ∃ A cap, v = .slice A n cap ∧ n ≤ cap ∧ cap ≤ maxLen ∧ Rd w A xs := by
  have h0 := h
  obtain ⟨h1, h2⟩ := h
  rcases h2 with ⟨rfl, rfl⟩ | ⟨g, cap, cur, rfl, hg, hh, hn, hm, r1, r2⟩
  · refine ⟨none, 0, rfl, Nat.le_refl _, Nat.zero_le _, .inl ?_⟩
    simpa using h1
  · refine ⟨_, _, rfl, hn, hm, .inr ⟨g, 0, rfl, fun i u hu => ?_⟩⟩
    have := h0.cellAt i (by rw [← h1]; exact (List.getElem?_eq_some_iff.1 hu).1)
    simpa [this] using hu

/-- a []string that the call has made -/
def strs (l : List (List UInt8)) : List Value := l.map fun x => .string (S x)
theorem strs_len (l : List (List UInt8)) : (strs l).length = l.length := by simp [strs]
theorem strs_get {l : List (List UInt8)} {i : Nat} (h : i < l.length) : (strs l)[i]? = some (.string (S l[i])) := by simp [strs, h]

theorem bcell {W w1 : World} (hb : Below W.heap.size W w1) : (∀ b o, b < W.heap.size → w1.cell? ⟨b, o, none⟩ = W.cell? ⟨b, o, none⟩) ∧ (∀ b o, b < W.heap.size → w1.frozen? ⟨b, o, none⟩ = W.frozen? ⟨b, o, none⟩) :=
  ⟨fun b o h => hb.cell (p := ⟨b, o, none⟩) h, fun b o h => hb.frozen (p := ⟨b, o, none⟩) h⟩

/-- a row of one new cell -/
theorem cell_new1 (w : World) (a : Value) (t : TypeId) : ∀ j u, [a][j]? = some u → (w.alloc (.cells #[a] t)).cell? ((⟨w.heap.size, 0, none⟩ : Addr).add j) = some u := by
  intro j u h
  match j, h with
  | 0, h => simp at h; subst h; simp [Addr.add]

def classB (c : UInt8) : Bool := (97 ≤ c && c ≤ 122) || (65 ≤ c && c ≤ 90) || (48 ≤ c && c ≤ 57) || c == 46 || c == 95 || c == 45
theorem classB_iff (c : UInt8) : classB c = true ↔ ((97 ≤ (c.toNat : Int) ∧ (c.toNat : Int) ≤ 122) ∨ (65 ≤ (c.toNat : Int) ∧ (c.toNat : Int) ≤ 90) ∨ (48 ≤ (c.toNat : Int) ∧ (c.toNat : Int) ≤ 57) ∨ (c.toNat : Int) = 46 ∨ (c.toNat : Int) = 95 ∨ (c.toNat : Int) = 45) := by
  simp only [classB, Bool.or_eq_true, Bool.and_eq_true, decide_eq_true_eq, beq_iff_eq, UInt8.le_iff_toNat_le, ← UInt8.toNat_inj]
  simp
  omega
theorem u8_lt (c : UInt8) : (c.toNat : Int) < 256 := by have := c.toNat_lt; omega
theorem u8_eq {c d : UInt8} : c = d ↔ (c.toNat : Int) = (d.toNat : Int) := by rw [← UInt8.toNat_inj]; omega
theorem all_snoc {α : Type} (p : α → Bool) (s : List α) (k : Nat) (h : k < s.length) : (s.take (k + 1)).all p = ((s.take k).all p && p s[k]) := by
  rw [List.take_succ_eq_append_getElem h, List.all_append]; simp

def elementB (s : List UInt8) : Bool := !s.isEmpty && decide (s.length ≤ 60) && !(s == [46]) && !(s == [46, 46]) && !([46, 119, 104, 46].isPrefixOf s) && s.all classB

/-- a text cut at a byte -/
def cutB (c : UInt8) : List UInt8 → List (List UInt8)
  | [] => [[]]
  | x :: r => if x = c then [] :: cutB c r else match cutB c r with
    | [] => [[x]]
    | h :: t => (x :: h) :: t
theorem cutB_ne (c : UInt8) (s : List UInt8) : cutB c s ≠ [] := by
  cases s with
  | nil => simp [cutB]
  | cons x r =>
    rw [cutB]
    split
    · simp
    · split <;> simp
theorem cutB_len (c : UInt8) (s : List UInt8) : (cutB c s).length ≤ s.length + 1 := by
  induction s with
  | nil => simp [cutB]
  | cons x r ih =>
    rw [cutB]
    split
    · simp; exact ih
    · split
      · simp
      · rename_i h t e
        rw [e] at ih; simp at ih ⊢; omega
/-- what is cut, a piece at a time: behind a piece without the byte -/
theorem cutB_piece (c : UInt8) (p r : List UInt8) (h : c ∉ p) : cutB c (p ++ c :: r) = p :: cutB c r := by
  induction p with
  | nil => simp [cutB]
  | cons x p ih =>
    have hx : x ≠ c := fun e => h (e ▸ List.mem_cons_self)
    rw [List.cons_append, cutB, if_neg hx, ih (fun e => h (List.mem_cons_of_mem _ e))]
theorem cutB_last (c : UInt8) (p : List UInt8) (h : c ∉ p) : cutB c p = [p] := by
  induction p with
  | nil => simp [cutB]
  | cons x p ih =>
    have hx : x ≠ c := fun e => h (e ▸ List.mem_cons_self)
    rw [cutB, if_neg hx, ih (fun e => h (List.mem_cons_of_mem _ e))]

/-- elements with slashes between -/
def joinB : List (List UInt8) → List UInt8
  | [] => []
  | [x] => x
  | x :: y :: r => x ++ 47 :: joinB (y :: r)
theorem joinB_snoc (l : List (List UInt8)) (x : List UInt8) (h : l ≠ []) : joinB (l ++ [x]) = joinB l ++ 47 :: x := by
  induction l with
  | nil => exact absurd rfl h
  | cons a l ih =>
    cases l with
    | nil => simp [joinB]
    | cons b r =>
      have := ih (by simp)
      simp only [List.cons_append, joinB] at this ⊢
      rw [this]; simp
theorem joinB_take (l : List (List UInt8)) (k : Nat) (h : k < l.length) : joinB (l.take (k + 1)) = if k = 0 then l[k] else joinB (l.take k) ++ 47 :: l[k] := by
  rw [List.take_succ_eq_append_getElem h]
  split
  · rename_i h0; subst h0; simp [joinB]
  · rename_i h0
    exact joinB_snoc _ _ (by intro e; have := congrArg List.length e; rw [List.length_take, List.length_nil] at this; omega)
theorem joinB_take1 (l : List (List UInt8)) (k : Nat) (h : k < l.length) (h0 : 0 < k) : joinB (l.take (k + 1)) = joinB (l.take k) ++ 47 :: l[k] := by
  rw [joinB_take l k h, if_neg (by omega)]
theorem joinB_take0 (l : List (List UInt8)) (k : Nat) (h : k < l.length) (h0 : ¬ 0 < k) : joinB (l.take (k + 1)) = joinB (l.take k) ++ l[k] := by
  rw [joinB_take l k h, if_pos (by omega)]
  obtain rfl : k = 0 := by omega
  simp [joinB]
/-- bytes of elements and what stands between -/
def lensB : List (List UInt8) → Nat
  | [] => 0
  | x :: r => x.length + 1 + lensB r
theorem lensB_app (l m : List (List UInt8)) : lensB (l ++ m) = lensB l + lensB m := by
  induction l with
  | nil => simp [lensB]
  | cons a l ih => simp only [List.cons_append, lensB, ih]; omega
theorem joinB_len (l : List (List UInt8)) : (joinB l).length ≤ lensB l := by
  induction l with
  | nil => simp [joinB, lensB]
  | cons a l ih =>
    cases l with
    | nil => simp [joinB, lensB]
    | cons b r => simp only [joinB, lensB, List.length_append, List.length_cons] at ih ⊢; omega
theorem lensB_take (l : List (List UInt8)) (k : Nat) : lensB (l.take k) ≤ lensB l := by
  have := lensB_app (l.take k) (l.drop k)
  rw [List.take_append_drop] at this; omega
theorem lensB_get (l : List (List UInt8)) (k : Nat) (h : k < l.length) : lensB (l.take k) + l[k].length + 1 ≤ lensB l := by
  have := lensB_take l (k + 1)
  rw [List.take_succ_eq_append_getElem h, lensB_app] at this
  simp only [lensB] at this ⊢; omega
theorem lensB_cut (c : UInt8) (s : List UInt8) : lensB (cutB c s) ≤ s.length + 1 := by
  induction s with
  | nil => simp [cutB, lensB]
  | cons x r ih =>
    rw [cutB]
    split
    · simp [lensB] at ih ⊢; omega
    · split
      · simp [lensB]
      · rename_i h t e
        rw [e] at ih; simp [lensB] at ih ⊢; omega
def partsB (p : List UInt8) : List (List UInt8) := if p = [] then [] else cutB 47 p
theorem partsB_len (p : List UInt8) : (partsB p).length ≤ p.length + 1 := by
  unfold partsB; split
  · simp
  · exact cutB_len _ _
def pathB (p : List UInt8) : Bool := decide (p.length ≤ 170) && decide ((partsB p).length ≤ 12) && (partsB p).all elementB
end Go.Proofs.YtpkabccinhfmbaaGreatDoor
namespace Go.Proofs.YtpkabccinhfmbaaGreatDoor

/-- the parts of a text gone through, behind those that stand already -/
def resGo : List (List UInt8) → List (List UInt8) → Option (List (List UInt8))
  | out, [] => some out
  | out, e :: r => if e = [] ∨ e = [46] then resGo out r else if e = [46, 46] then (if out = [] then none else resGo out.dropLast r)
    else if elementB e = true then resGo (out ++ [e]) r else none
theorem resGo_skip (out r : List (List UInt8)) (e : List UInt8) (h : e = [] ∨ e = [46]) : resGo out (e :: r) = resGo out r := by rw [resGo, if_pos h]
theorem resGo_up0 (r : List (List UInt8)) : resGo [] ([46, 46] :: r) = none := by rw [resGo, if_neg (by simp), if_pos rfl, if_pos rfl]
theorem resGo_up (out r : List (List UInt8)) (h : out ≠ []) : resGo out ([46, 46] :: r) = resGo out.dropLast r := by rw [resGo, if_neg (by simp), if_pos rfl, if_neg h]
theorem resGo_in (out r : List (List UInt8)) (e : List UInt8) (h0 : e ≠ []) (h1 : e ≠ [46]) (h2 : e ≠ [46, 46]) (h3 : elementB e = true) : resGo out (e :: r) = resGo (out ++ [e]) r := by
  rw [resGo, if_neg (by simp [h0, h1]), if_neg h2, if_pos h3]
theorem resGo_no (out r : List (List UInt8)) (e : List UInt8) (h0 : e ≠ []) (h1 : e ≠ [46]) (h2 : e ≠ [46, 46]) (h3 : elementB e = false) : resGo out (e :: r) = none := by
  rw [resGo, if_neg (by simp [h0, h1]), if_neg h2, if_neg (by simp [h3])]
/-- what is gone through: ref -/
def allR (work text : List UInt8) : List (List UInt8) := if text.head? = some 47 then cutB 47 text else partsB work ++ cutB 47 text
/-- likewise, as the program has it -/
def allP (work text : List UInt8) : List (List UInt8) := if text.head? = some 47 then cutB 47 text else cutB 47 work ++ cutB 47 text
theorem resGo_all (work text : List UInt8) : resGo [] (allP work text) = resGo [] (allR work text) := by
  unfold allP allR partsB
  split
  · rfl
  · split
    · rename_i h; subst h; rw [cutB]; exact resGo_skip _ _ _ (.inl rfl)
    · rfl
def resB (work text : List UInt8) : Option (List (List UInt8)) := resGo [] (allR work text)
theorem lensB_all (work text : List UInt8) : lensB (allR work text) ≤ work.length + text.length + 2 ∧ lensB (allP work text) ≤ work.length + text.length + 2 := by
  have h1 := lensB_cut 47 work
  have h2 := lensB_cut 47 text
  have h3 : lensB (partsB work) ≤ work.length + 1 := by unfold partsB; split <;> simp_all [lensB]
  unfold allR allP
  constructor <;> split <;> (try rw [lensB_app]) <;> omega
theorem len_lensB (l : List (List UInt8)) : l.length ≤ lensB l := by
  induction l with
  | nil => simp [lensB]
  | cons a l ih => simp only [lensB, List.length_cons]; omega
theorem lensB_drop (l : List (List UInt8)) : lensB l.dropLast ≤ lensB l := by
  rw [List.dropLast_eq_take]; exact lensB_take _ _
theorem resGo_lens (l : List (List UInt8)) : ∀ (out r : List (List UInt8)), resGo out l = some r → lensB r ≤ lensB out + lensB l := by
  induction l with
  | nil => intro out r h; simp [resGo] at h; subst h; simp [lensB]
  | cons e l ih =>
    intro out r h
    rw [resGo] at h
    simp only [lensB]
    split at h
    · have := ih _ _ h; omega
    · split at h
      · split at h
        · cases h
        · have := ih _ _ h; have := lensB_drop out; omega
      · split at h
        · have := ih _ _ h; simp only [lensB_app, lensB] at this; omega
        · cases h
theorem head_some {t : List UInt8} {c : UInt8} (h : t.head? = some c) : ∃ r, t = c :: r := by
  cases t with
  | nil => cases h
  | cons a r => cases h; exact ⟨r, rfl⟩
theorem drop_cons {α : Type} (l : List α) (k : Nat) (h : k < l.length) : l.drop k = l[k] :: l.drop (k + 1) := List.drop_eq_getElem_cons h
theorem nil_or_snoc {α : Type} (l : List α) : l = [] ∨ ∃ a b, l = a ++ [b] := by
  rcases List.eq_nil_or_concat l with h | ⟨a, b, h⟩
  · exact .inl h
  · exact .inr ⟨a, b, by rw [h, List.concat_eq_append]⟩
theorem strs_app (a b : List (List UInt8)) : strs (a ++ b) = strs a ++ strs b := by simp [strs]
end Go.Proofs.YtpkabccinhfmbaaGreatDoor
namespace Go.Proofs.YtpkabccinhfmbaaGreatDoor
open Go.RowKit

theorem ownsRow_form {w : World} {base : Nat} {e : TypeId} {size : Nat} {v : Value} {n : Nat} {xs : List Value} (h : w.ownsRow base e size v n xs) : ∃ ao c, v = .slice ao n c := by
  rcases h.2 with ⟨h1, h2⟩ | ⟨g, cap, cur, hv, _⟩
  · subst h2; exact ⟨none, 0, h1⟩
  · exact ⟨_, _, hv⟩
theorem own_ne {w : World} {base : Nat} {e : TypeId} {size : Nat} {v : Value} {n : Nat} {xs : List Value} (h : w.ownsRow base e size v n xs) {g : Nat} (hg : g < base) : some g ≠ v.ownBlock := by
  rcases h.2 with ⟨rfl, _⟩ | ⟨g', cap, cur, rfl, hb, _⟩
  · simp [Value.ownBlock]
  · simp only [Value.ownBlock, ne_eq, Option.some.injEq]; omega
theorem own_le {w : World} {base : Nat} {e : TypeId} {size : Nat} {v : Value} {n : Nat} {xs : List Value} (h : w.ownsRow base e size v n xs) : ∀ k, v.ownBlock = some k → base ≤ k := by
  rcases h.2 with ⟨rfl, _⟩ | ⟨g', cap, cur, rfl, hb, _⟩
  · simp [Value.ownBlock]
  · intro k hk; simp only [Value.ownBlock, Option.some.injEq] at hk; omega
theorem ownsRow_below {w w' : World} {base : Nat} {e : TypeId} {size : Nat} {v : Value} {n : Nat} {xs : List Value} (h : w.ownsRow base e size v n xs) (hb : Below w.heap.size w w') : w'.ownsRow base e size v n xs := by
  obtain ⟨h1, h2⟩ := h
  refine ⟨h1, ?_⟩
  rcases h2 with h2 | ⟨g, cap, cur, hv, hg, hh, r⟩
  · exact .inl h2
  · exact .inr ⟨g, cap, cur, hv, hg, (hb.block g (Array.getElem?_eq_some_iff.1 hh).1).trans hh, r⟩
theorem ownsRow_base {w : World} {base base' : Nat} {e : TypeId} {size : Nat} {v : Value} {n : Nat} {xs : List Value} (h : w.ownsRow base e size v n xs) (hb : base' ≤ base) : w.ownsRow base' e size v n xs := by
  obtain ⟨h1, h2⟩ := h
  refine ⟨h1, ?_⟩
  rcases h2 with h2 | ⟨g, cap, cur, hv, hg, r⟩
  · exact .inl h2
  · exact .inr ⟨g, cap, cur, hv, Nat.le_trans hb hg, r⟩
/-- the blocks of a type stay -/
def KeepT (T : TypeId) (w w' : World) : Prop := ∀ (g : Nat) (cur : Array Value), w.heap[g]? = some (Obj.cells cur T (0, 0)) → w'.heap[g]? = some (Obj.cells cur T (0, 0))
theorem KeepT.refl (T : TypeId) (w : World) : KeepT T w w := fun _ _ h => h
theorem KeepT.trans {T : TypeId} {a b c : World} (h : KeepT T a b) (k : KeepT T b c) : KeepT T a c := fun g cur e => k g cur (h g cur e)
theorem KeepT.below {T : TypeId} {w w' : World} (h : Below w.heap.size w w') : KeepT T w w' := fun g cur e => (h.block g (Array.getElem?_eq_some_iff.1 e).1).trans e
theorem KeepT.drew {T : TypeId} {w w' : World} (h : KeepT T w w') : KeepT T w w'.drew := h
theorem KeepT.grown {T e : TypeId} {w w' : World} {base size n : Nat} {v : Value} {xs : List Value} (hg : w.grownBy w' v.ownBlock) (ho : w.ownsRow base e size v n xs) (hne : e ≠ T) : KeepT T w w' := by
  intro g cur h
  refine (hg.block g (Array.getElem?_eq_some_iff.1 h).1 ?_).trans h
  rcases ho.2 with ⟨rfl, _⟩ | ⟨g', cap, cur', rfl, hb, hh, _⟩
  · simp [Value.ownBlock]
  · intro heq
    simp only [Value.ownBlock, Option.some.injEq] at heq
    subst heq
    rw [h] at hh
    simp only [Option.some.injEq, Obj.cells.injEq] at hh
    exact hne hh.2.1.symm
theorem KeepT.setCell {T e : TypeId} {w : World} {g : Nat} {c : Array Value} {fz : Nat × Nat} (hb : w.heap[g]? = some (.cells c e fz)) (hne : e ≠ T) (o : Nat) (u : Value) : KeepT T w (w.setCell ⟨g, o, none⟩ u) := by
  intro g' cur h
  have : g' ≠ g := by
    rintro rfl
    rw [h] at hb
    simp only [Option.some.injEq, Obj.cells.injEq] at hb
    exact hne hb.2.1.symm
  rw [heap_setCell_other w ⟨g, o, none⟩ g' u this]; exact h
theorem ownsRow_keep {T : TypeId} {w w' : World} {base size n : Nat} {v : Value} {xs : List Value} (h : w.ownsRow base T size v n xs) (hk : KeepT T w w') : w'.ownsRow base T size v n xs := by
  obtain ⟨h1, h2⟩ := h
  refine ⟨h1, ?_⟩
  rcases h2 with h2 | ⟨g, cap, cur, hv, hg, hh, r⟩
  · exact .inl h2
  · exact .inr ⟨g, cap, cur, hv, hg, hk g cur hh, r⟩
end Go.Proofs.YtpkabccinhfmbaaGreatDoor
namespace Go.Proofs.YtpkabccinhfmbaaGreatDoor
open Go.RowKit

abbrev tStr : TypeId := 9
abbrev tMap : TypeId := 106
abbrev tPtr : TypeId := 77
theorem strK : Maps.Keyed Tryz.prog tStr := Maps.string_keyed Tryz.underlying9
/-- a node's pointer, as a datum -/
def nodeR : Value → Option (DataW Unit × List MemPlace)
  | .pointer none => some (.nil, [])
  | .pointer (some ⟨b, 0, none⟩) => some (.lit (.int .i64 (b : Int)), [])
  | _ => none
def nodeV : Option Nat → Value
  | none => .pointer none
  | some a => .pointer (some ⟨a, 0, none⟩)
def nodeD : Option Nat → DataW Unit
  | none => .nil
  | some a => .lit (.int .i64 (a : Int))
theorem nodeR_V (o : Option Nat) : nodeR (nodeV o) = some (nodeD o, []) := by cases o <;> rfl
theorem nodeD_inj {o o' : Option Nat} (h : nodeD o = nodeD o') : o = o' := by
  cases o <;> cases o' <;> simp [nodeD] at h ⊢
  omega
theorem nodeR_inv {v : Value} {o : Option Nat} {ps : List MemPlace} (h : nodeR v = some (nodeD o, ps)) : v = nodeV o := by
  unfold nodeR at h
  split at h
  · simp only [Option.some.injEq, Prod.mk.injEq] at h
    have : o = none := nodeD_inj (o' := none) h.1.symm
    rw [this]; rfl
  · rename_i b
    simp only [Option.some.injEq, Prod.mk.injEq] at h
    have : o = some b := nodeD_inj (o' := some b) h.1.symm
    rw [this]; rfl
  · cases h
theorem nodeR_some {v : Value} {y : DataW Unit × List MemPlace} (h : nodeR v = some y) : ∃ o, v = nodeV o ∧ y = (nodeD o, []) := by
  unfold nodeR at h
  split at h
  · exact ⟨none, rfl, (Option.some.inj h).symm⟩
  · rename_i b; exact ⟨some b, rfl, (Option.some.inj h).symm⟩
  · cases h

/-- block b is a map of at most n names that reads as f -/
def MapIs (w : World) (b n : Nat) (f : List UInt8 → Option Nat) : Prop :=
  ∃ D : DataW Unit, w.ownsMap Tryz.prog tStr nodeR b n D ∧ Maps.IsMap D ∧ ∀ k, D.atKey (.string k) .nil = nodeD (f k) ∧ Maps.has D (.string k) = (f k).isSome
def upd (f : List UInt8 → Option Nat) (k : List UInt8) (o : Option Nat) : List UInt8 → Option Nat := fun k' => if k' = k then o else f k'
theorem keyS {s : List UInt8} (h : s.length ≤ maxLen) : keyOf Tryz.prog tStr (.string (S s)) = some (.string s) := by
  have := Go.WideMaps.keyOf_string_mk Tryz.underlying9 (s := S s) (by rw [S_size]; exact h)
  exact this
theorem strLit (s : List UInt8) : WideAt.IsKeyLit (.string s) := by
  simp [WideAt.IsKeyLit]

theorem MapIs.made (w : World) : MapIs (w.alloc (.map #[] 0)) w.heap.size 0 (fun _ => none) :=
  ⟨.map [], World.ownsMap_made _ _ _ _, ⟨[], rfl⟩, fun k => ⟨rfl, rfl⟩⟩
theorem MapIs.lt {w : World} {b n : Nat} {f : List UInt8 → Option Nat} (h : MapIs w b n f) : b < w.heap.size := by
  obtain ⟨D, h, _⟩ := h; exact h.lt
theorem MapIs.mono {w : World} {b n m : Nat} {f : List UInt8 → Option Nat} (h : MapIs w b n f) (hm : n ≤ m) : MapIs w b m f := by
  obtain ⟨D, h, r⟩ := h; exact ⟨D, h.mono hm, r⟩
theorem MapIs.kept {w w' : World} {row : Option Nat} {b n : Nat} {f : List UInt8 → Option Nat} (h : MapIs w b n f) (hg : w.grownBy w' row) (hne : some b ≠ row) : MapIs w' b n f := by
  obtain ⟨D, h, r⟩ := h; exact ⟨D, h.kept hg hne, r⟩
/-- .. where the block has stayed -/
theorem MapIs.block {w w' : World} {b n : Nat} {f : List UInt8 → Option Nat} (h : MapIs w b n f) (hb : w'.heap[b]? = w.heap[b]?) : MapIs w' b n f := by
  obtain ⟨D, ⟨es, clock, h1, r1⟩, r⟩ := h; exact ⟨D, ⟨es, clock, hb.trans h1, r1⟩, r⟩
theorem MapIs.look {w : World} {b n : Nat} {f : List UInt8 → Option Nat} (h : MapIs w b n f) (k : List UInt8) (hk : k.length ≤ maxLen) :
    (Instr.lookup tMap (.map (some b)) (.string (S k)) false).run Tryz.prog w = .ok (nodeV (f k)) w := by
  obtain ⟨D, h, _, r⟩ := h
  obtain ⟨v, ps, hrun, hv⟩ := h.lookup strK Tryz.underlying106 (z := .pointer none) (by kernel_rfl) (zd := .nil) (zp := []) rfl (keyS hk)
  rw [(r k).1] at hv
  rw [hrun, nodeR_inv hv]
theorem look_nil (w : World) (k : List UInt8) (hk : k.length ≤ maxLen) : (Instr.lookup tMap (.map none) (.string (S k)) false).run Tryz.prog w = .ok (.pointer none) w :=
  Maps.look_nil false strK Tryz.underlying106 (z := .pointer none) (by kernel_rfl) (keyS hk)
theorem MapIs.put {w : World} {b n : Nat} {f : List UInt8 → Option Nat} (h : MapIs w b n f) (k : List UInt8) (hk : k.length ≤ maxLen) (a : Nat) (hn : n < maxLen) :
    ∃ w', (Instr.mapUpdate tMap (.map (some b)) (.string (S k)) (.pointer (some ⟨a, 0, none⟩))).run Tryz.prog w = .ok () w' ∧ MapIs w' b (n + 1) (upd f k (some a)) ∧ w.grownBy w' (some b) := by
  obtain ⟨D, h, hm, r⟩ := h
  obtain ⟨w', hrun, h', hg⟩ := h.update strK Tryz.underlying106 hn (keyS hk) (val := .pointer (some ⟨a, 0, none⟩)) (d := nodeD (some a)) (ps := []) rfl
  refine ⟨w', hrun, ⟨_, h', ?_, fun k' => ?_⟩, hg⟩
  · obtain ⟨es, rfl⟩ := hm; exact ⟨_, rfl⟩
  · unfold upd
    by_cases e : k' = k
    · subst e
      rw [if_pos rfl]
      exact ⟨Maps.atKey_put_same hm (strLit _) _ _, Maps.has_put_same hm (strLit _) _⟩
    · rw [if_neg e]
      have hne : Lit.string k' ≠ .string k := fun h => e (Lit.string.inj h)
      exact ⟨(Maps.atKey_put_other hne _ _).trans (r k').1, (Maps.has_put_other hne _).trans (r k').2⟩
theorem mapTurned_grown {w w' : World} {b : Nat} (h : w.mapTurned w' b) : w.grownBy w' (some b) := by
  obtain ⟨es, clock, es', clock', hb, rfl⟩ := h
  exact ⟨rfl, rfl, rfl, by simp [Go.ChangeMaps.setBlock], fun i _ hi => Go.ChangeMaps.heap_setBlock_other hb _ (fun e => hi (by rw [e]))⟩
theorem MapIs.del {w : World} {b n : Nat} {f : List UInt8 → Option Nat} (h : MapIs w b n f) (k : List UInt8) (hk : k.length ≤ maxLen) (ty : TypeId) :
    ∃ w', (Builtin.delete_ #[tMap, tStr] ty #[.map (some b), .string (S k)]).run Tryz.prog w = .ok (.tuple #[]) w' ∧ MapIs w' b n (upd f k none) ∧ w.grownBy w' (some b) := by
  obtain ⟨D, h, hm, r⟩ := h
  obtain ⟨w', hrun, h', hg⟩ := h.drop strK Tryz.underlying106 (keyS hk) ty
  refine ⟨w', hrun, ⟨_, h', ?_, fun k' => ?_⟩, mapTurned_grown hg⟩
  · obtain ⟨es, rfl⟩ := hm; exact ⟨_, rfl⟩
  · unfold upd
    by_cases e : k' = k
    · subst e
      rw [if_pos rfl]
      exact ⟨Maps.atKey_del_same _, Maps.has_del_same⟩
    · rw [if_neg e]
      have hne : Lit.string k' ≠ .string k := fun h => e (Lit.string.inj h)
      exact ⟨(Maps.atKey_del_other hne _).trans (r k').1, (Maps.has_del_other hne).trans (r k').2⟩
theorem MapIs.clear {w : World} {b n : Nat} {f : List UInt8 → Option Nat} (h : MapIs w b n f) (ty : TypeId) :
    ∃ w', (Builtin.clear_ #[tMap] ty #[.map (some b)]).run Tryz.prog w = .ok (.tuple #[]) w' ∧ MapIs w' b 0 (fun _ => none) ∧ w.grownBy w' (some b) := by
  obtain ⟨D, ⟨es, clock, hb, F, hs, hD⟩, hm, r⟩ := h
  refine ⟨Go.ChangeMaps.setBlock w b (.map #[] clock), ?_, ⟨.map [], ⟨#[], clock, Go.ChangeMaps.heap_setBlock_same hb _, ⟨by simp, Go.MapKept.stamped_empty clock, by simp⟩, Nat.le_refl _, rfl⟩, ⟨[], rfl⟩, fun k => ⟨rfl, rfl⟩⟩, mapTurned_grown ⟨es, clock, #[], clock, hb, rfl⟩⟩
  simp [Builtin.clear_, run_underlying Tryz.underlying106, MapKept.run_getObj_map hb, MapKept.run_setObj_map _ hb, Result.andThen, Go.ChangeMaps.setBlock]
end Go.Proofs.YtpkabccinhfmbaaGreatDoor
namespace Go.Proofs.YtpkabccinhfmbaaGreatDoor
open Go.RowKit

/-- the package-level variables that the calls read -/
structure Std (w : World) : Prop where
  maxlen : ∃ m, w.cell? ⟨1, 0, none⟩ = some (.int .i64 m)

theorem Std.below {w w' : World} (h : Std w) (hb : Below w.heap.size w w') : Std w' := by
  obtain ⟨m, hm⟩ := h.maxlen
  exact ⟨⟨m, (hb.cell (World.block_lt_of_cell? w _ hm)).trans hm⟩⟩
end Go.Proofs.YtpkabccinhfmbaaGreatDoor
namespace Go.Proofs.YtpkabccinhfmbaaGreatDoor
open Go.RowKit

theorem Rd.pre {w : World} {A : Option Addr} {xs ys : List Value} (h : Rd w A (xs ++ ys)) : Rd w A xs := by
  rcases h with h | ⟨b, o, rfl, hc⟩
  · exact .inl (List.append_eq_nil_iff.1 h).1
  · refine .inr ⟨b, o, rfl, fun i u hu => hc i u ?_⟩
    rw [List.getElem?_append_left (List.getElem?_eq_some_iff.1 hu).1]; exact hu
theorem Rd.strs_take {w : World} {A : Option Addr} {P : List (List UInt8)} (h : Rd w A (strs P)) (m : Nat) : Rd w A (strs (P.take m)) := by
  have e : strs P = strs (P.take m) ++ strs (P.drop m) := by simp only [strs]; rw [← List.map_append, List.take_append_drop]
  rw [e] at h; exact h.pre
end Go.Proofs.YtpkabccinhfmbaaGreatDoor
namespace Go.Proofs.YtpkabccinhfmbaaGreatDoor
open Go.RowKit

def u8s (b : List UInt8) : List Value := b.map fun x => .int .u8 (x.toNat : Int)
theorem u8s_len (b : List UInt8) : (u8s b).length = b.length := by simp [u8s]
theorem u8s_get (b : List UInt8) (i : Nat) (h : i < b.length) : (u8s b)[i]? = some (.int .u8 ((b[i]).toNat : Int)) := by
  unfold u8s; rw [List.getElem?_map, List.getElem?_eq_getElem h]; rfl
theorem below_drew2 {B : Nat} {a w : World} (h : Below B a w) : Below B a w.drew := ⟨h.os, h.tape, h.output, h.size, h.block⟩
end Go.Proofs.YtpkabccinhfmbaaGreatDoor
