/-
  Plain words on paths: what a text names, from a directory on. No program in sight.
-/
import Derived.Test.YtkooakadckjpkaaGreatDoorBase
namespace Go.Proofs.YtkooakadckjpkaaGreatDoor

/-- the parts of a text gone through, behind those that stand already -/
def resGo : List (List UInt8) → List (List UInt8) → Option (List (List UInt8))
  | out, [] => some out
  | out, e :: r => if e = [] ∨ e = [46] then resGo out r else if e = [46, 46] then (if out = [] then none else resGo out.dropLast r)
    else if elementB e = true then resGo (out ++ [e]) r else none
theorem resGo_skip (out r : List (List UInt8)) (e : List UInt8) (h : e = [] ∨ e = [46]) : resGo out (e :: r) = resGo out r := by rw [resGo, if_pos h]
theorem resGo_up0 (r : List (List UInt8)) : resGo [] ([46, 46] :: r) = none := by rw [resGo, if_neg (by simp), if_pos rfl, if_pos rfl]
theorem resGo_up (out r : List (List UInt8)) (h : out ≠ []) : resGo out ([46, 46] :: r) = resGo out.dropLast r := by rw [resGo, if_neg (by simp), if_pos rfl, if_neg h]
theorem resGo_in (out r : List (List UInt8)) (e : List UInt8) (h0 : e ≠ []) (h1 : e ≠ [46]) (h2 : e ≠ [46, 46]) (h3 : elementB e = true) : resGo out (e :: r) = resGo (out ++ [e]) r := by
  rw [resGo, if_neg (by simp [h0, h1]), if_neg h2, if_pos h3]
theorem resGo_no (out r : List (List UInt8)) (e : List UInt8) (h0 : e ≠ []) (h1 : e ≠ [46]) (h2 : e ≠ [46, 46]) (h3 : elementB e = false) : resGo out (e :: r) = none := by
  rw [resGo, if_neg (by simp [h0, h1]), if_neg h2, if_neg (by simp [h3])]
/-- what is gone through: ref -/
def allR (work text : List UInt8) : List (List UInt8) := if text.head? = some 47 then cutB 47 text else partsB work ++ cutB 47 text
/-- likewise, as the program has it -/
def allP (work text : List UInt8) : List (List UInt8) := if text.head? = some 47 then cutB 47 text else cutB 47 work ++ cutB 47 text
theorem resGo_all (work text : List UInt8) : resGo [] (allP work text) = resGo [] (allR work text) := by
  unfold allP allR partsB
  split
  · rfl
  · split
    · rename_i h; subst h; rw [cutB]; exact resGo_skip _ _ _ (.inl rfl)
    · rfl
def resB (work text : List UInt8) : Option (List (List UInt8)) := resGo [] (allR work text)
theorem lensB_all (work text : List UInt8) : lensB (allR work text) ≤ work.length + text.length + 2 ∧ lensB (allP work text) ≤ work.length + text.length + 2 := by
  have h1 := lensB_cut 47 work
  have h2 := lensB_cut 47 text
  have h3 : lensB (partsB work) ≤ work.length + 1 := by unfold partsB; split <;> simp_all [lensB]
  unfold allR allP
  constructor <;> split <;> (try rw [lensB_app]) <;> omega
theorem len_lensB (l : List (List UInt8)) : l.length ≤ lensB l := by
  induction l with
  | nil => simp [lensB]
  | cons a l ih => simp only [lensB, List.length_cons]; omega
theorem lensB_drop (l : List (List UInt8)) : lensB l.dropLast ≤ lensB l := by
  rw [List.dropLast_eq_take]; exact lensB_take _ _
theorem resGo_lens (l : List (List UInt8)) : ∀ (out r : List (List UInt8)), resGo out l = some r → lensB r ≤ lensB out + lensB l := by
  induction l with
  | nil => intro out r h; simp [resGo] at h; subst h; simp [lensB]
  | cons e l ih =>
    intro out r h
    rw [resGo] at h
    simp only [lensB]
    split at h
    · have := ih _ _ h; omega
    · split at h
      · split at h
        · cases h
        · have := ih _ _ h; have := lensB_drop out; omega
      · split at h
        · have := ih _ _ h; simp only [lensB_app, lensB] at this; omega
        · cases h
theorem head_some {t : List UInt8} {c : UInt8} (h : t.head? = some c) : ∃ r, t = c :: r := by
  cases t with
  | nil => cases h
  | cons a r => cases h; exact ⟨r, rfl⟩
theorem drop_cons {α : Type} (l : List α) (k : Nat) (h : k < l.length) : l.drop k = l[k] :: l.drop (k + 1) := List.drop_eq_getElem_cons h
theorem nil_or_snoc {α : Type} (l : List α) : l = [] ∨ ∃ a b, l = a ++ [b] := by
  rcases List.eq_nil_or_concat l with h | ⟨a, b, h⟩
  · exact .inl h
  · exact .inr ⟨a, b, by rw [h, List.concat_eq_append]⟩
theorem strs_app (a b : List (List UInt8)) : strs (a ++ b) = strs a ++ strs b := by simp [strs]
end Go.Proofs.YtkooakadckjpkaaGreatDoor
