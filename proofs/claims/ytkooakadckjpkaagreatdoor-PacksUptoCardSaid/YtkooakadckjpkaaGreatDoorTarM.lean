/-
  Plain words: an archive's name by its elements, and where it is split. No program in sight.
-/
import Derived.Test.YtkooakadckjpkaaGreatDoorTarW
import Derived.Test.YtkooakadckjpkaaGreatDoorBarP
namespace Go.Proofs.YtkooakadckjpkaaGreatDoor

/-- a change that may be, its place aside -/
def Fit (c : Ent) : Prop := pathB c.path = true ∧ (goodB c = true ∨ markB c = true) ∧ (c.path = [] → c.kind = 5)
theorem shape_fit {i : Nat} {c : Ent} (h : shapeR i c = true) : Fit c := by
  unfold shapeR at h
  simp only [Bool.not_or, Bool.not_not, Bool.and_eq_true, Bool.not_and, Bool.or_eq_true, Bool.not_eq_true', decide_eq_false_iff_not] at h
  obtain ⟨⟨⟨_, h1⟩, h2⟩, h3⟩ := h
  refine ⟨h1, ?_, fun e => ?_⟩
  · rcases h2 with h2 | h2
    · exact .inl (by simpa using h2)
    · exact .inr (by simpa using h2)
  · rcases h3 with h3 | h3
    · rw [e] at h3; cases h3
    · simpa using h3
theorem barR_fit {l : List Ent} {i : Nat} {c : Ent} (h : l[i]? = some c) (hb : barR l i = false) : Fit c := by
  refine shape_fit (i := i) ?_
  cases hs : shapeR i c with
  | true => rfl
  | false => rw [barR_shape h hs] at hb; cases hb

/-- elements that a name may be made of -/
structure NameE (es : List (List UInt8)) : Prop where
  ne : es ≠ []
  each : ∀ e ∈ es, (47 : UInt8) ∉ e ∧ e.length ≤ 64
  inner : ∀ k (_ : k + 1 < es.length), es[k] ≠ []
  first : es.head? ≠ some []

/-- the name's elements -/
def elemsB (c : Ent) : List (List UInt8) :=
  if c.kind = 1 then partsB c.path ++ [[]] else if c.kind = 4 then (partsB c.path).dropLast ++ [[46, 119, 104, 46] ++ (partsB c.path).getLastD []]
  else if c.kind = 5 then partsB c.path ++ [[46, 119, 104, 46, 46, 119, 104, 46, 46, 111, 112, 113]] else partsB c.path
theorem elementB_ok {e : List UInt8} (h : elementB e = true) : e ≠ [] ∧ e.length ≤ 60 ∧ (47 : UInt8) ∉ e := by
  unfold elementB at h
  simp only [Bool.and_eq_true, Bool.not_eq_true', decide_eq_true_eq] at h
  obtain ⟨⟨⟨⟨⟨h1, h2⟩, _⟩, _⟩, _⟩, h6⟩ := h
  refine ⟨(by intro e0; rw [e0] at h1; cases h1), h2, fun hm => ?_⟩
  have := List.all_eq_true.1 h6 _ hm
  revert this; decide
theorem pathB_ok {p : List UInt8} (h : pathB p = true) : p.length ≤ 170 ∧ ∀ e ∈ partsB p, elementB e = true := by
  unfold pathB at h
  simp only [Bool.and_eq_true, decide_eq_true_eq] at h
  exact ⟨h.1.1, fun e he => List.all_eq_true.1 h.2 e he⟩
theorem partsB_ne {p : List UInt8} (h : p ≠ []) : partsB p ≠ [] := by unfold partsB; rw [if_neg h]; exact cutB_ne _ _
theorem joinB_parts (p : List UInt8) : joinB (partsB p) = p := by
  unfold partsB; split
  · rename_i h; rw [h]; rfl
  · exact joinB_cut p
theorem joinB_nil {l : List (List UInt8)} (h : ∀ e ∈ l, e ≠ []) (hn : l ≠ []) : joinB l ≠ [] := by
  cases l with
  | nil => exact absurd rfl hn
  | cons x r =>
    cases r with
    | nil => exact h x (by simp)
    | cons y s => rw [joinB]; intro e; have := congrArg List.length e; simp at this
theorem inB_join {l : List (List UInt8)} {x : List UInt8} (h : ∀ e ∈ l, e ≠ []) (hx : x ≠ []) : inB (joinB l) x = joinB (l ++ [x]) := by
  unfold inB
  by_cases hl : l = []
  · subst hl; rw [if_pos (.inl rfl)]; rfl
  · rw [if_neg (by rintro (e | e); exact joinB_nil h hl e; exact hx e), joinB_snoc _ _ hl]

theorem elems_name {c : Ent} (h : Fit c) : namB c = joinB (elemsB c) ∧ NameE (elemsB c) := by
  obtain ⟨hp, hg, h0⟩ := h
  obtain ⟨hl, he⟩ := pathB_ok hp
  have he2 : ∀ e ∈ partsB c.path, e ≠ [] ∧ e.length ≤ 60 ∧ (47 : UInt8) ∉ e := fun e hm => elementB_ok (he e hm)
  have hcat : ∀ (l : List (List UInt8)) (x : List UInt8), (∀ e ∈ l, e ≠ [] ∧ e.length ≤ 60 ∧ (47 : UInt8) ∉ e) → (47 : UInt8) ∉ x → x.length ≤ 64 → (l = [] → x ≠ []) → NameE (l ++ [x]) := by
    intro l x h1 h2 h3 h4
    refine ⟨by simp, ?_, ?_, ?_⟩
    · intro e hm
      rcases List.mem_append.1 hm with hm | hm
      · have := h1 e hm; exact ⟨this.2.2, by omega⟩
      · rw [List.mem_singleton.1 hm]; exact ⟨h2, h3⟩
    · intro k hk
      have hk2 : k < l.length := by simp at hk; omega
      rw [List.getElem_append_left hk2]
      exact (h1 _ (List.getElem_mem hk2)).1
    · cases l with
      | nil => simpa using h4 rfl
      | cons a r => simpa using (h1 a (by simp)).1
  unfold namB elemsB
  by_cases k1 : c.kind = 1
  · rw [if_pos k1, if_pos k1]
    have hpn : c.path ≠ [] := fun e => by rw [h0 e] at k1; cases k1
    refine ⟨?_, hcat _ _ he2 (by simp) (by simp) (fun e => absurd e (partsB_ne hpn))⟩
    rw [joinB_snoc _ _ (partsB_ne hpn), joinB_parts]
  · rw [if_neg k1, if_neg k1]
    by_cases k4 : c.kind = 4
    · rw [if_pos k4, if_pos k4]
      have hpn : c.path ≠ [] := fun e => by rw [h0 e] at k4; cases k4
      have hd : ∀ e ∈ (partsB c.path).dropLast, e ≠ [] ∧ e.length ≤ 60 ∧ (47 : UInt8) ∉ e := fun e hm => he2 e (List.dropLast_subset _ hm)
      have hlast : (partsB c.path).getLastD [] ∈ partsB c.path := by
        have hne := partsB_ne hpn
        rw [List.getLastD_eq_getLast?, List.getLast?_eq_some_getLast hne]
        exact List.getLast_mem hne
      obtain ⟨g1, g2, g3⟩ := he2 _ hlast
      refine ⟨?_, hcat _ _ hd (by rw [List.mem_append]; rintro (hm | hm); revert hm; decide; exact g3 hm) (by simp only [List.length_append, List.length_cons, List.length_nil]; omega) (fun _ e => by have := congrArg List.length e; simp at this)⟩
      unfold upB
      exact inB_join (fun e hm => (hd e hm).1) (by simp)
    · rw [if_neg k4, if_neg k4]
      by_cases k5 : c.kind = 5
      · rw [if_pos k5, if_pos k5]
        refine ⟨?_, hcat _ _ he2 (by decide) (by decide) (fun _ => by simp)⟩
        have := inB_join (l := partsB c.path) (x := [46, 119, 104, 46, 46, 119, 104, 46, 46, 111, 112, 113]) (fun e hm => (he2 e hm).1) (by simp)
        rw [joinB_parts] at this; exact this
      · rw [if_neg k5, if_neg k5]
        have hpn : c.path ≠ [] := fun e => k5 (h0 e)
        refine ⟨(joinB_parts _).symm, partsB_ne hpn, fun e hm => ⟨(he2 e hm).2.2, by have := he2 e hm; omega⟩, fun k hk => (he2 _ (List.getElem_mem _)).1, ?_⟩
        intro e
        exact (he2 [] (List.mem_of_mem_head? e)).1 rfl

/-! ### the split -/
theorem slashB_from (s : List UInt8) (q i : Nat) (hq : q ≤ i) (hi : i < s.length) (h1 : s[i] = 47) (h2 : s.length - i - 1 ≤ 100) (hb : ∀ j (hj : j < s.length), q ≤ j → j < i → ¬ (s[j] = 47 ∧ s.length - j - 1 ≤ 100)) : slashB s q = i := by
  by_cases e : q = i
  · subst e; exact slashB_here hi h1 h2
  · rw [slashB_next (by omega) (hb q (by omega) (Nat.le_refl _) (by omega))]
    exact slashB_from s (q + 1) i (by omega) hi h1 h2 (fun j hj h3 h4 => hb j hj (by omega) h4)
termination_by i - q
theorem joinB_split (es : List (List UInt8)) (k : Nat) (h0 : 0 < k) (hk : k < es.length) : joinB es = joinB (es.take k) ++ 47 :: joinB (es.drop k) := by
  conv => lhs; rw [← List.take_append_drop k es]
  refine joinB_app _ _ ?_ ?_
  · intro e; have := congrArg List.length e; rw [List.length_take, List.length_nil] at this; omega
  · intro e; have := congrArg List.length e; rw [List.length_drop, List.length_nil] at this; omega
theorem joinB_drop (es : List (List UInt8)) (k : Nat) (hk : k + 1 < es.length) : joinB (es.drop k) = es[k] ++ 47 :: joinB (es.drop (k + 1)) := by
  rw [List.drop_eq_getElem_cons (by omega)]
  have : es.drop (k + 1) = es[k + 1] :: es.drop (k + 2) := List.drop_eq_getElem_cons hk
  rw [this, joinB]
theorem joinB_drop_last (es : List (List UInt8)) (k : Nat) (hk : k + 1 = es.length) : joinB (es.drop k) = es[k] := by
  rw [List.drop_eq_getElem_cons (by omega), show k + 1 = es.length from hk, List.drop_length]; rfl
/-- the name split behind k elements -/
theorem split_here {es : List (List UInt8)} (hE : NameE es) (k : Nat) (h0 : 0 < k) (hk : k < es.length) (h1 : 100 < (joinB (es.drop (k - 1))).length) (h2 : (joinB (es.drop k)).length ≤ 100) :
    splB (joinB es) = (joinB (es.take k), joinB (es.drop k)) := by
  have e := joinB_split es k h0 hk
  have hlen : (joinB es).length = (joinB (es.take k)).length + 1 + (joinB (es.drop k)).length := by rw [e]; simp; omega
  obtain ⟨m, rfl⟩ : ∃ m, k = m + 1 := ⟨k - 1, by omega⟩
  rw [Nat.add_sub_cancel] at h1
  have hm := joinB_take es m (by omega)
  have hd := joinB_drop es m hk
  have hgt : 100 < (joinB es).length := by
    by_cases hm0 : m = 0
    · subst hm0; rw [List.drop_zero] at h1; exact h1
    · rw [joinB_split es m (by omega) (by omega)]; simp; omega
  have hat : slashB (joinB es) 0 = (joinB (es.take (m + 1))).length := by
    refine slashB_from _ 0 _ (Nat.zero_le _) (by omega) ?_ (by omega) ?_
    · simp only [e]; rw [List.getElem_append_right (Nat.le_refl _)]; simp
    · intro j hj _ hlt ⟨hc, hle⟩
      have hes : ∀ e' ∈ es, (47 : UInt8) ∉ e' := fun e' he => (hE.each e' he).1
      have hcj : (joinB (es.take (m + 1)))[j] = 47 := by
        simp only [e] at hc; rw [List.getElem_append_left hlt] at hc; exact hc
      by_cases hm0 : m = 0
      · subst hm0
        rw [if_pos rfl] at hm
        refine hes es[0] (List.getElem_mem _) ?_
        rw [← hm, ← hcj]; exact List.getElem_mem _
      · rw [if_neg hm0] at hm
        have hld : (joinB (es.drop m)).length = es[m].length + 1 + (joinB (es.drop (m + 1))).length := by rw [hd]; simp; omega
        have hlt2 : (joinB (es.take (m + 1))).length = (joinB (es.take m)).length + 1 + es[m].length := by rw [hm]; simp; omega
        have hj2 : (joinB (es.take m)).length < j := by omega
        simp only [hm] at hcj
        rw [List.getElem_append_right (by omega), List.getElem_cons] at hcj
        rw [dif_neg (by omega)] at hcj
        exact hes es[m] (List.getElem_mem _) (hcj ▸ List.getElem_mem _)
  unfold splB
  rw [if_neg (by omega), hat, if_pos (by omega)]
  conv => lhs; rw [e]
  simp
theorem split_none {s : List UInt8} (h : s.length ≤ 100) : splB s = ([], s) := by unfold splB; rw [if_pos h]
/-- what is split off is of such lengths -/
theorem split_len {es : List (List UInt8)} (hE : NameE es) (hl : (joinB es).length ≤ 190) : (splB (joinB es)).1.length ≤ 155 ∧ (splB (joinB es)).2.length ≤ 100 := by
  by_cases h : (joinB es).length ≤ 100
  · rw [split_none h]; exact ⟨by simp, h⟩
  · have hn : 0 < es.length := List.length_pos_iff.2 hE.ne
    have key : ∀ n k, es.length - k = n → k < es.length → 100 < (joinB (es.drop k)).length → ∃ q, 0 < q ∧ q < es.length ∧ 100 < (joinB (es.drop (q - 1))).length ∧ (joinB (es.drop q)).length ≤ 100 := by
      intro n
      induction n with
      | zero => intro k h1 h2; omega
      | succ n ih =>
        intro k h1 h2 h3
        by_cases hk : k + 1 < es.length
        · by_cases h4 : (joinB (es.drop (k + 1))).length ≤ 100
          · exact ⟨k + 1, by omega, hk, by rw [Nat.add_sub_cancel]; exact h3, h4⟩
          · exact ih (k + 1) (by omega) hk (by omega)
        · rw [joinB_drop_last es k (by omega)] at h3
          have := (hE.each es[k] (List.getElem_mem _)).2; omega
    obtain ⟨q, h1, h2, h3, h4⟩ := key _ 0 rfl hn (by rw [List.drop_zero]; omega)
    rw [split_here hE q h1 h2 h3 h4]
    refine ⟨?_, h4⟩
    have e := joinB_split es q h1 h2
    have hlen : (joinB es).length = (joinB (es.take q)).length + 1 + (joinB (es.drop q)).length := by rw [e]; simp; omega
    have hd := joinB_drop es (q - 1) (by omega)
    have he := (hE.each es[q - 1] (List.getElem_mem _)).2
    rw [hd] at h3
    simp only [show q - 1 + 1 = q by omega, List.length_append, List.length_cons] at h3
    show (joinB (es.take q)).length ≤ 155
    omega
theorem name_len {c : Ent} (h : Fit c) : (namB c).length ≤ 190 := by
  obtain ⟨hp, _, h0⟩ := h
  obtain ⟨hl, _⟩ := pathB_ok hp
  have hin : ∀ a b : List UInt8, (inB a b).length ≤ a.length + b.length + 1 := by
    intro a b; unfold inB; split <;> simp <;> omega
  unfold namB; split
  · simp; omega
  · split
    · rename_i _ k4
      have hpn : c.path ≠ [] := fun e => by rw [h0 e] at k4; cases k4
      have h1 := hin (upB c.path).1 ([46, 119, 104, 46] ++ (upB c.path).2)
      have h2 : (upB c.path).1.length + (upB c.path).2.length ≤ c.path.length := by
        have hj := joinB_parts c.path
        have hne := partsB_ne hpn
        have hdl : partsB c.path = (partsB c.path).dropLast ++ [(partsB c.path).getLastD []] := by
          rw [List.getLastD_eq_getLast?, List.getLast?_eq_some_getLast hne]; exact (List.dropLast_concat_getLast hne).symm
        unfold upB
        simp only
        by_cases hd0 : (partsB c.path).dropLast = []
        · rw [hd0] at hdl ⊢
          rw [hdl] at hj
          simp only [List.nil_append] at hj
          have := congrArg List.length hj
          simp only [joinB] at this
          simp [joinB]
          rw [List.getLastD_eq_getLast?] at this
          omega
        · rw [hdl, joinB_snoc _ _ hd0] at hj
          have := congrArg List.length hj
          simp only [List.length_append, List.length_cons] at this
          omega
      simp only [List.length_append, List.length_cons, List.length_nil] at h1; omega
    · split
      · have := hin c.path [46, 119, 104, 46, 46, 119, 104, 46, 46, 111, 112, 113]; simp at this; omega
      · omega
end Go.Proofs.YtkooakadckjpkaaGreatDoor
