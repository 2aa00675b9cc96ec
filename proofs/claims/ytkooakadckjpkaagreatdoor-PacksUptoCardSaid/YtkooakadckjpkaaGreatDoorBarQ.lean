/-
  Plain words: the document and the program find the same first change that may not stand where it stands. No program in sight.
-/
import Derived.Test.YtkooakadckjpkaaGreatDoorBarP
namespace Go.Proofs.YtkooakadckjpkaaGreatDoor

theorem last_shut (pre : List Ent) : (shutOf pre = none ∧ ∀ z ∈ pre, shuts z = false) ∨ (∃ (m : Nat) (y : Ent), pre[m]? = some y ∧ shuts y = true ∧ shutOf pre = some (y.path ++ [47]) ∧ ∀ (j : Nat) (z : Ent), m < j → pre[j]? = some z → shuts z = false) := by
  induction hn : pre.length generalizing pre with
  | zero => rw [List.eq_nil_of_length_eq_zero hn]; exact .inl ⟨rfl, fun z h => by cases h⟩
  | succ n ih =>
    rcases List.eq_nil_or_concat pre with rfl | ⟨p, c, rfl⟩
    · simp at hn
    rw [List.concat_eq_append] at hn ⊢
    have hpl : p.length = n := by simpa using hn
    rw [shutOf_snoc]
    cases hc : shuts c
    · simp only [Bool.false_eq_true, if_false]
      rcases ih p hpl with ⟨h1, h2⟩ | ⟨m, y, h1, h2, h3, h4⟩
      · refine .inl ⟨h1, fun z hz => ?_⟩
        rcases List.mem_append.1 hz with hz | hz
        · exact h2 z hz
        · rw [List.mem_singleton] at hz; subst hz; exact hc
      · have hm := (List.getElem?_eq_some_iff.1 h1).1
        refine .inr ⟨m, y, by rw [List.getElem?_append_left hm]; exact h1, h2, h3, fun j z hj hz => ?_⟩
        rcases Nat.lt_or_ge j p.length with h | h
        · rw [List.getElem?_append_left h] at hz; exact h4 j z hj hz
        · rw [List.getElem?_append_right h] at hz
          have := (List.getElem?_eq_some_iff.1 hz).1
          simp only [List.length_singleton] at this
          obtain e : j - p.length = 0 := by omega
          rw [e] at hz
          simp at hz; subst hz; exact hc
    · refine .inr ⟨p.length, c, by simp, hc, by simp, fun j z hj hz => ?_⟩
      have := (List.getElem?_eq_some_iff.1 hz).1
      simp at this; omega
theorem shuts_iff {x : Ent} : shuts x = true ↔ x.kind ≠ 1 ∧ x.kind ≠ 5 := by simp [shuts]

/-- what no bar ahead tells of one change -/
theorem bar_facts {l : List Ent} {j : Nat} {c : Ent} (h : barR l j = false) (hc : l[j]? = some c) : shapeR j c = true ∧ (∀ x, 0 < j → l[j - 1]? = some x → nextR x c = true) ∧ shutR (l.take j) c = false := by
  refine ⟨?_, ?_, ?_⟩
  · cases hs : shapeR j c
    · rw [barR_shape hc hs] at h; cases h
    · rfl
  · intro x h0 hx
    cases hn : nextR x c
    · rw [barR_next hc h0 hx hn] at h; cases h
    · rfl
  · cases hs : shutR (l.take j) c
    · rfl
    · rw [barR_shut hc hs] at h; cases h
theorem next_order {x c : Ent} (h : nextR x c = true) : orderL (partsB x.path) (partsB c.path) < 0 ∨ (partsB x.path = partsB c.path ∧ x.kind = 1) := by
  unfold nextR at h
  rcases Int.lt_or_le (orderL (partsB x.path) (partsB c.path)) 0 with h1 | h1
  · exact .inl h1
  · rw [decide_eq_true h1] at h
    simp only [Bool.true_and, Bool.not_not, Bool.and_eq_true, decide_eq_true_eq] at h
    exact .inr ⟨orderL_eq h.1.1, h.1.2⟩
theorem shape_path {j : Nat} {c : Ent} (h : shapeR j c = true) (h5 : c.kind ≠ 5) : c.path ≠ [] := by
  unfold shapeR at h
  intro e
  rw [e, decide_eq_false h5] at h
  simp at h
/-- from a change that is no directory on all stand behind it -/
theorem chain {l : List Ent} {k i j : Nat} {x y : Ent} (hn : ∀ (m : Nat) (a b : Ent), m < k → l[m]? = some a → l[m + 1]? = some b → nextR a b = true) (hij : i < j) (hj : j ≤ k) (hx : l[i]? = some x) (hy : l[j]? = some y) (h1 : x.kind ≠ 1) : orderL (partsB x.path) (partsB y.path) < 0 := by
  induction j generalizing y with
  | zero => omega
  | succ j ih =>
    have hjl := (List.getElem?_eq_some_iff.1 hy).1
    obtain ⟨z, hz⟩ : ∃ z, l[j]? = some z := ⟨l[j]'(by omega), List.getElem?_eq_getElem _⟩
    have hzn := next_order (hn j z y (by omega) hz hy)
    rcases Nat.lt_or_ge i j with h | h
    · have := ih h (by omega) hz
      rcases hzn with h2 | ⟨h2, _⟩
      · exact orderL_trans this h2
      · rw [← h2]; exact this
    · obtain rfl : i = j := by omega
      rw [hx] at hz; cases hz
      rcases hzn with h2 | ⟨_, h2⟩
      · exact h2
      · exact absurd h2 h1

theorem shut_same {l : List Ent} {k : Nat} {c : Ent} (hb : ∀ j, j < k → barR l j = false) (hc : l[k]? = some c) (hnx : ∀ x, 0 < k → l[k - 1]? = some x → nextR x c = true) : shutP (shutOf (l.take k)) c = shutR (l.take k) c := by
  have hkl := (List.getElem?_eq_some_iff.1 hc).1
  have hn : ∀ (m : Nat) (a b : Ent), m < k → l[m]? = some a → l[m + 1]? = some b → nextR a b = true := by
    intro m a b hm ha hbb
    rcases Nat.lt_or_ge (m + 1) k with h | h
    · exact (bar_facts (hb (m + 1) h) hbb).2.1 a (by omega) ha
    · obtain rfl : m + 1 = k := by omega
      rw [hc] at hbb; cases hbb
      exact hnx a (by omega) ha
  have ht : ∀ (j : Nat) (z : Ent), (l.take k)[j]? = some z ↔ j < k ∧ l[j]? = some z := by
    intro j z
    rw [List.getElem?_take]
    by_cases h : j < k <;> simp [h]
  rcases last_shut (l.take k) with ⟨h1, h2⟩ | ⟨m, y, h1, h2, h3, h4⟩
  · rw [h1]
    refine (shutR_none (fun q x hq => ?_)).symm
    have := h2 x (List.mem_of_getElem? hq)
    by_cases hk1 : x.kind = 1
    · exact .inr (.inl hk1)
    · by_cases hk5 : x.kind = 5
      · exact .inr (.inr hk5)
      · rw [shuts_iff.2 ⟨hk1, hk5⟩] at this; cases this
  · obtain ⟨hm, hy⟩ := (ht m y).1 h1
    obtain ⟨hy1, hy5⟩ := shuts_iff.1 h2
    have fy := bar_facts (hb m hm) hy
    have hyp := shape_path fy.1 hy5
    rw [h3]
    show (y.path ++ [47]).isPrefixOf c.path = _
    cases hp : (y.path ++ [47]).isPrefixOf c.path
    · refine (shutR_none (fun q x hq => ?_)).symm
      obtain ⟨hqk, hx⟩ := (ht q x).1 hq
      by_cases hk1 : x.kind = 1
      · exact .inr (.inl hk1)
      by_cases hk5 : x.kind = 5
      · exact .inr (.inr hk5)
      left
      have fx := bar_facts (hb q hqk) hx
      have hxp := shape_path fx.1 hk5
      cases hbl : belowB c.path x.path
      · rfl
      · exfalso
        have hpre : (x.path ++ [47]).isPrefixOf c.path = true := by
          unfold belowB at hbl; rw [if_neg hxp] at hbl; exact hbl
        rcases Nat.lt_trichotomy q m with h | h | h
        · have o1 := chain hn h (by omega) hx hy hk1
          have o2 := chain hn hm (Nat.le_refl k) hy hc hy1
          have hxy := orderL_between (below_parts hxp hpre) o1 o2
          have hne : partsB x.path ≠ partsB y.path := fun e => by rw [e, orderL_refl] at o1; omega
          have hbx : belowB y.path x.path = true := by
            unfold belowB; rw [if_neg hxp]; exact parts_below hxp hxy hne
          have := shutR_at (pre := l.take m) (q := q) (by rw [List.getElem?_take, if_pos h]; exact hx) hbx hk1 hk5
          rw [fy.2.2] at this; cases this
        · subst h
          rw [hx] at hy; cases hy
          rw [hp] at hpre; cases hpre
        · have := h4 q x h hq
          rw [shuts_iff.2 ⟨hk1, hk5⟩] at this; cases this
    · refine (shutR_at h1 ?_ hy1 hy5).symm
      unfold belowB; rw [if_neg hyp]; exact hp
theorem bar_same {l : List Ent} {k : Nat} (hk : k < l.length) (hb : ∀ j, j < k → barR l j = false) : barR l k = barP l k := by
  obtain ⟨c, hc⟩ : ∃ c, l[k]? = some c := ⟨l[k], List.getElem?_eq_getElem hk⟩
  have h80 : k ≤ 80 := by
    rcases Nat.lt_or_ge 80 k with h | h
    · have h1 := hb 80 h
      rw [barR_shape (c := l[80]'(by omega)) (List.getElem?_eq_getElem (by omega)) (by unfold shapeR; rfl)] at h1
      cases h1
    · exact h
  have eP : barP l k = (!(shapeP k c && (match l[k - 1]? with | some x => decide (k = 0) || nextP x c | none => true)) || shutP (shutOf (l.take k)) c) := by rw [barP, hc]; rfl
  rw [eP, shape_same h80]
  cases hs : shapeR k c
  · rw [barR_shape hc hs]; rfl
  · rcases Nat.eq_zero_or_pos k with h0 | h0
    · have e1 : (match l[k - 1]? with | some x => decide (k = 0) || nextP x c | none => true) = true := by
        rw [decide_eq_true h0]; cases l[k - 1]? <;> simp
      have e2 := shut_same hb hc (fun x h => by omega)
      rw [e1, e2]
      cases hh : shutR (l.take k) c
      · rw [barR_ok hc hs (.inl h0) hh]; rfl
      · rw [barR_shut hc hh]; rfl
    · obtain ⟨x, hx⟩ : ∃ x, l[k - 1]? = some x := ⟨l[k - 1]'(by omega), List.getElem?_eq_getElem _⟩
      rw [hx]
      show barR l k = (!(true && (decide (k = 0) || nextP x c)) || _)
      rw [next_same]
      cases hn : nextR x c
      · rw [barR_next hc h0 hx hn, decide_eq_false (by omega : ¬ k = 0)]; rfl
      · rw [shut_same hb hc (fun y _ hy => by rw [hx] at hy; cases hy; exact hn)]
        cases hh : shutR (l.take k) c
        · rw [barR_ok hc hs (.inr ⟨x, hx, hn⟩) hh]; simp
        · rw [barR_shut hc hh]; simp
theorem bars_same {l : List Ent} {r s : Int} (h : First (barR l) l.length r) (k : First (barP l) l.length s) : r = s :=
  h.uniq k (fun i hi hb _ => bar_same hi hb)
end Go.Proofs.YtkooakadckjpkaaGreatDoor
