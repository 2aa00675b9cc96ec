/-
  Plain words: the first change that may not stand where it stands, as the program finds it: the same one. No program in sight.
-/
import Derived.Test.YtkooakadckjpkaaGreatDoorBar
namespace Go.Proofs.YtkooakadckjpkaaGreatDoor

/-! ### tree order -/
theorem orderL_eq {a b : List (List UInt8)} (h : orderL a b = 0) : a = b := by
  induction a generalizing b with
  | nil =>
    cases b with
    | nil => rfl
    | cons y ys => simp only [orderL, List.length_nil, List.length_cons] at h; omega
  | cons x xs ih =>
    cases b with
    | nil => simp only [orderL, List.length_nil, List.length_cons] at h; omega
    | cons y ys =>
      rw [orderL] at h
      split at h
      · omega
      · split at h
        · omega
        · rename_i h1 h2
          rw [List.le_antisymm (List.not_lt.1 h2) (List.not_lt.1 h1), ih h]
theorem orderL_refl (a : List (List UInt8)) : orderL a a = 0 := by
  induction a with
  | nil => rfl
  | cons x xs ih => rw [orderL, if_neg (List.lt_irrefl x), if_neg (List.lt_irrefl x), ih]
theorem orderL_trans {a b c : List (List UInt8)} (h1 : orderL a b < 0) (h2 : orderL b c < 0) : orderL a c < 0 := by
  induction a generalizing b c with
  | nil =>
    cases c with
    | nil =>
      cases b with
      | nil => exact h1
      | cons y ys => simp only [orderL, List.length_nil, List.length_cons] at h2; omega
    | cons z zs => simp only [orderL, List.length_nil, List.length_cons]; omega
  | cons x xs ih =>
    cases b with
    | nil => simp only [orderL, List.length_nil, List.length_cons] at h1; omega
    | cons y ys =>
      cases c with
      | nil => simp only [orderL, List.length_nil, List.length_cons] at h2; omega
      | cons z zs =>
        rw [orderL] at h1 h2 ⊢
        by_cases hxy : x < y
        · by_cases hyz : y < z
          · rw [if_pos (List.lt_trans hxy hyz)]; omega
          · rw [if_neg hyz] at h2
            by_cases hzy : z < y
            · rw [if_pos hzy] at h2; omega
            · have e : y = z := List.le_antisymm (List.not_lt.1 hzy) (List.not_lt.1 hyz)
              subst e
              rw [if_pos hxy]; omega
        · rw [if_neg hxy] at h1
          by_cases hyx : y < x
          · rw [if_pos hyx] at h1; omega
          · rw [if_neg hyx] at h1
            have e : x = y := List.le_antisymm (List.not_lt.1 hyx) (List.not_lt.1 hxy)
            subst e
            by_cases hyz : x < z
            · rw [if_pos hyz]; omega
            · rw [if_neg hyz] at h2 ⊢
              by_cases hzy : z < x
              · rw [if_pos hzy] at h2; omega
              · rw [if_neg hzy] at h2 ⊢
                exact ih h1 h2
/-- what stands between a path and one below it is below it, too -/
theorem orderL_between {a y c : List (List UInt8)} (h : a <+: c) (h1 : orderL a y < 0) (h2 : orderL y c < 0) : a <+: y := by
  induction a generalizing y c with
  | nil => exact List.nil_prefix
  | cons x xs ih =>
    obtain ⟨r, rfl⟩ := h
    cases y with
    | nil => simp only [orderL, List.length_nil, List.length_cons] at h1; omega
    | cons z zs =>
      rw [List.cons_append, orderL] at h2
      rw [orderL] at h1
      by_cases hxz : x < z
      · rw [if_neg (fun h => List.lt_irrefl x (List.lt_trans hxz h)), if_pos hxz] at h2; omega
      · rw [if_neg hxz] at h1
        by_cases hzx : z < x
        · rw [if_pos hzx] at h1; omega
        · rw [if_neg hzx] at h1
          have e : x = z := List.le_antisymm (List.not_lt.1 hzx) (List.not_lt.1 hxz)
          subst e
          rw [if_neg (List.lt_irrefl x), if_neg (List.lt_irrefl x)] at h2
          obtain ⟨t, ht⟩ := ih ⟨r, rfl⟩ h1 h2
          exact ⟨t, by rw [List.cons_append, ht]⟩

/-! ### paths and their elements -/
theorem cutB_app (c : UInt8) (p r : List UInt8) : cutB c (p ++ c :: r) = cutB c p ++ cutB c r := by
  induction p with
  | nil => simp [cutB]
  | cons x p ih =>
    rw [List.cons_append, cutB, cutB]
    split
    · rw [ih]; rfl
    · rw [ih]
      cases h : cutB c p with
      | nil => exact absurd h (cutB_ne c p)
      | cons a t => rfl
theorem joinB_cut (p : List UInt8) : joinB (cutB 47 p) = p := by
  induction p with
  | nil => rfl
  | cons x p ih =>
    rw [cutB]
    split
    · rename_i h
      subst h
      cases h2 : cutB 47 p with
      | nil => exact absurd h2 (cutB_ne 47 p)
      | cons a t => rw [joinB, ← h2, ih]; rfl
    · cases h2 : cutB 47 p with
      | nil => exact absurd h2 (cutB_ne 47 p)
      | cons a t =>
        rw [h2] at ih
        cases t with
        | nil => simp only [joinB] at ih ⊢; rw [ih]
        | cons b u => simp only [joinB, List.cons_append] at ih ⊢; rw [ih]
theorem joinB_app (a b : List (List UInt8)) (ha : a ≠ []) (hb : b ≠ []) : joinB (a ++ b) = joinB a ++ 47 :: joinB b := by
  induction a with
  | nil => exact absurd rfl ha
  | cons x r ih =>
    cases r with
    | nil =>
      cases b with
      | nil => exact absurd rfl hb
      | cons y s => rfl
    | cons y s =>
      have := ih (by simp)
      simp only [List.cons_append, joinB] at this ⊢
      rw [this]; simp
theorem below_parts {p d : List UInt8} (hd : d ≠ []) (h : (d ++ [47]).isPrefixOf p = true) : partsB d <+: partsB p := by
  rw [List.isPrefixOf_iff_prefix] at h
  obtain ⟨r, rfl⟩ := h
  have e : d ++ [47] ++ r = d ++ 47 :: r := by simp
  rw [e]
  unfold partsB
  rw [if_neg hd, if_neg (by simp), cutB_app]
  exact ⟨_, rfl⟩
theorem parts_below {p d : List UInt8} (hd : d ≠ []) (h : partsB d <+: partsB p) (hne : partsB d ≠ partsB p) : (d ++ [47]).isPrefixOf p = true := by
  obtain ⟨r, hr⟩ := h
  have hp : p ≠ [] := by
    intro e
    subst e
    have h1 : partsB ([] : List UInt8) = [] := rfl
    rw [h1] at hr
    have := (List.append_eq_nil_iff.1 hr).1
    unfold partsB at this
    rw [if_neg hd] at this
    exact cutB_ne _ _ this
  have hrn : r ≠ [] := by intro e; subst e; rw [List.append_nil] at hr; exact hne hr
  unfold partsB at hr
  rw [if_neg hd, if_neg hp] at hr
  have := congrArg joinB hr
  rw [joinB_app _ _ (cutB_ne _ _) hrn, joinB_cut, joinB_cut] at this
  rw [List.isPrefixOf_iff_prefix]
  exact ⟨joinB r, by rw [← this]; simp⟩

/-! ### what the program asks -/
def shuts (x : Ent) : Bool := !decide (x.kind = 1) && !decide (x.kind = 5)
/-- behind changes: what is shut, if anything is -/
def shutOf (pre : List Ent) : Option (List UInt8) := (pre.filter shuts).getLast?.map (fun x => x.path ++ [47])
theorem shutOf_snoc (pre : List Ent) (c : Ent) : shutOf (pre ++ [c]) = if shuts c then some (c.path ++ [47]) else shutOf pre := by
  unfold shutOf
  rw [List.filter_append]
  cases h : shuts c <;> simp [h]
def shapeP (k : Nat) (c : Ent) : Bool :=
  decide (k < 80) && pathB c.path &&
  (if c.kind = 4 then !c.path.isEmpty && decide (c.mode = 0) && c.data.isEmpty
   else if c.kind = 5 then decide (c.mode = 0) && c.data.isEmpty
   else !c.path.isEmpty && goodB c)
def nextP (x c : Ent) : Bool :=
  if compareL (partsB x.path) (partsB c.path) = 0 then decide (x.kind = 1) && decide (c.kind = 5) else !decide (0 < compareL (partsB x.path) (partsB c.path))
def shutP (s : Option (List UInt8)) (c : Ent) : Bool := match s with | some t => t.isPrefixOf c.path | none => false
def barP (l : List Ent) (k : Nat) : Bool := match l[k]? with
  | none => false
  | some c => !(shapeP k c && (match l[k - 1]? with | some x => decide (k = 0) || nextP x c | none => true)) || shutP (shutOf (l.take k)) c

theorem next_same (x c : Ent) : nextP x c = nextR x c := by
  obtain ⟨h1, h2, h3⟩ := compareL_sign (partsB x.path) (partsB c.path)
  unfold nextP nextR
  by_cases h0 : compareL (partsB x.path) (partsB c.path) = 0
  · rw [if_pos h0, decide_eq_true (by rw [h1.1 h0]; omega : 0 ≤ orderL (partsB x.path) (partsB c.path)), decide_eq_true (h1.1 h0)]
    simp
  · rw [if_neg h0]
    by_cases hp : 0 < compareL (partsB x.path) (partsB c.path)
    · have hq := h2.1 hp
      rw [decide_eq_true hp, decide_eq_true (by omega : 0 ≤ orderL (partsB x.path) (partsB c.path)), decide_eq_false (by omega : ¬ orderL (partsB x.path) (partsB c.path) = 0)]
      simp
    · have hq : orderL (partsB x.path) (partsB c.path) < 0 := h3.1 (by omega)
      rw [decide_eq_false hp, decide_eq_false (by omega : ¬ 0 ≤ orderL (partsB x.path) (partsB c.path))]
      simp
theorem goodB_kind {c : Ent} (h : goodB c = true) : c.kind = 1 ∨ c.kind = 2 ∨ c.kind = 3 := by
  unfold goodB at h
  split at h
  · exact .inl (by assumption)
  · split at h
    · exact .inr (.inl (by assumption))
    · split at h
      · exact .inr (.inr (by assumption))
      · cases h
theorem shape_same {k : Nat} {c : Ent} (hk : k ≤ 80) : shapeP k c = shapeR k c := by
  unfold shapeP shapeR
  have e80 : decide (k < 80) = !decide (k = 80) := by
    by_cases h : k = 80
    · rw [decide_eq_true h, decide_eq_false (by omega)]; rfl
    · rw [decide_eq_false h, decide_eq_true (by omega)]; rfl
  rw [e80]
  by_cases h4 : c.kind = 4
  · have hg : goodB c = false := by
      cases hg : goodB c
      · rfl
      · rcases goodB_kind hg with h | h | h <;> omega
    have hm : markB c = (decide (c.mode = 0) && c.data.isEmpty) := by unfold markB; rw [decide_eq_true h4]; simp
    rw [if_pos h4, hg, hm, decide_eq_false (by omega : ¬ c.kind = 5)]
    cases decide (k = 80) <;> cases pathB c.path <;> cases c.path.isEmpty <;> cases decide (c.mode = 0) <;> cases c.data.isEmpty <;> rfl
  · rw [if_neg h4]
    by_cases h5 : c.kind = 5
    · have hg : goodB c = false := by
        cases hg : goodB c
        · rfl
        · rcases goodB_kind hg with h | h | h <;> omega
      have hm : markB c = (decide (c.mode = 0) && c.data.isEmpty) := by unfold markB; rw [decide_eq_true h5]; simp
      rw [if_pos h5, hg, hm, decide_eq_true h5]
      cases decide (k = 80) <;> cases pathB c.path <;> cases c.path.isEmpty <;> cases decide (c.mode = 0) <;> cases c.data.isEmpty <;> rfl
    · have hm : markB c = false := by unfold markB; rw [decide_eq_false h4, decide_eq_false h5]; rfl
      rw [if_neg h5, hm, decide_eq_false h5]
      cases decide (k = 80) <;> cases pathB c.path <;> cases c.path.isEmpty <;> cases goodB c <;> rfl
end Go.Proofs.YtkooakadckjpkaaGreatDoor
