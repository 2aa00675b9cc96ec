/-
  The document's answer: changes done on a tree.
  Plain words: changes done on a tree, step by step.
-/
import Derived.Laws.AppendOwnNone
import Derived.Test.YtpkabccinhfmbaaGreatDoorY01
set_option linter.unusedVariables false
set_option linter.unusedSimpArgs false
namespace Go.Proofs.YtpkabccinhfmbaaGreatDoor
open Go.RowKit

theorem wpList_append_rd {P : Program} {w : World} {ops : Array Oper} {rest : List Oper} {o : Oper} {a : Act} {Q : Exit → Act → World → Prop} (hgd : o.guard = none) (s x : Operand) (t : TypeId)
    (ho : o.op = .call { callee := .builtin .append, args := #[s, x], argTypes := #[t, t] })
    (base : Nat) (e : TypeId) (i : TypeInfo) (z : Value) (size bytes : Nat) (ht : P.underlying t = some (.slice e)) (hi : P.info? e = some i) (hz : i.zero = some z)
    (hsize : i.size = size) (hby : i.bytes = bytes) (hzs : z.cells.size = size) (hsz : 0 < size)
    (v : Value) (n : Nat) (xs : List Value) (hs : a.eval s = v) (hown : w.ownsRow base e size v n xs)
    (A : Option Addr) (m cap : Nat) (ys : List Value) (hx : a.eval x = .slice A m cap) (hA : A = none → m = 0 ∧ cap = 0) (hr : Rd w A ys) (hyl : ys.length = m * size) (h1 : ∀ u ∈ ys, u.oneCell' = true)
    (h63 : n + m ≤ maxLen) (hbytes : (n + m) * bytes ≤ 140737488355328) (hbase : base ≤ w.heap.size)
    (h : ∀ v' w', w'.ownsRow base e size v' (n + m) (xs ++ ys) → w.grownBy w' v.ownBlock → wpList P ops Q rest (a.put o.dst v') w') : wpList P ops Q (o :: rest) a w := by
  cases A with
  | none =>
    obtain ⟨rfl, rfl⟩ := hA rfl
    have hy : ys = [] := List.eq_nil_of_length_eq_zero (by simpa using hyl)
    subst hy
    refine wpList_append_own_none hgd s x t ho base e i size ht hi v n xs hs hown hx ?_
    exact h v w (by simpa using hown) ⟨rfl, rfl, rfl, Nat.le_refl _, fun _ _ _ => rfl⟩
  | some ad =>
    refine wpList_append_own w hgd s x t ho base e i z size bytes ht hi hz hsize hby hzs hsz v n xs hs hown ad m cap ys hx hyl ?_ h1 h63 hbytes hbase (fun v' w' h2 h3 _ => h v' w' h2 h3)
    intro j u hu
    rcases hr with rfl | ⟨b, o, hb, hc⟩
    · simp at hu
    · cases hb
      have hj := hc j u hu
      by_cases h0 : j = 0
      · subst h0; simpa [Addr.add] using hj
      · simpa [Addr.add, h0] using hj
theorem ents_one_cell (l : List Ent) : ∀ u ∈ ents l, u.oneCell' = true := by
  induction l with
  | nil => simp [ents]
  | cons x r ih =>
    intro u hu
    rw [ents, List.mem_append] at hu
    rcases hu with hu | hu
    · simp [Ent.cells] at hu; rcases hu with rfl | rfl | rfl | rfl <;> rfl
    · exact ih u hu
/-- does what is to be cleared or to go not stand there? -/
def missB (a : List Ent) (c : Ent) : Bool := (decide (c.kind = 5) && !decide (kindL a c.path = 1)) || (decide (c.kind = 4) && decide (kindL a c.path = 0))
def cutL (t : List Ent) (c : Ent) : List Ent := if c.kind = 5 then withoutL t c.path false else if c.kind = 4 then withoutL t c.path true else t
def cutAll (a : List Ent) : List Ent → Nat → List Ent → Except Nat (List Ent)
  | [], _, t => .ok t
  | c :: r, i, t => if missB a c = true then .error i else cutAll a r (i + 1) (cutL t c)
def putAll : List Ent → Nat → List Ent → Except Nat (List Ent)
  | [], _, t => .ok t
  | c :: r, i, t => if c.kind = 4 ∨ c.kind = 5 then putAll r (i + 1) t else if kindL t (upB c.path).1 = 1 then putAll r (i + 1) (putL t c) else .error i
/-- what a patch answers: entries, error, place -/
def patchL (a l : List Ent) : List Ent × Int × Int := match cutAll a l 0 a with
  | .error i => ([], 8, i)
  | .ok t => match putAll l 0 t with
    | .error i => ([], 9, i)
    | .ok t => if 40 < t.length then ([], 10, -1) else (t, 0, -1)
theorem cutAll_drop {a l t : List Ent} {k : Nat} {c : Ent} (h : l[k]? = some c) : cutAll a (l.drop k) k t = if missB a c = true then .error k else cutAll a (l.drop (k + 1)) (k + 1) (cutL t c) := by
  obtain ⟨hk, rfl⟩ := List.getElem?_eq_some_iff.1 h
  rw [List.drop_eq_getElem_cons hk, cutAll]
theorem putAll_drop {l t : List Ent} {k : Nat} {c : Ent} (h : l[k]? = some c) : putAll (l.drop k) k t = if c.kind = 4 ∨ c.kind = 5 then putAll (l.drop (k + 1)) (k + 1) t else if kindL t (upB c.path).1 = 1 then putAll (l.drop (k + 1)) (k + 1) (putL t c) else .error k := by
  obtain ⟨hk, rfl⟩ := List.getElem?_eq_some_iff.1 h
  rw [List.drop_eq_getElem_cons hk, putAll]
theorem cutL_sub {t : List Ent} {c x : Ent} (h : x ∈ cutL t c) : x ∈ t := by
  unfold cutL withoutL at h
  split at h
  · exact (List.mem_filter.1 h).1
  · split at h
    · exact (List.mem_filter.1 h).1
    · exact h
theorem cutL_len (t : List Ent) (c : Ent) : (cutL t c).length ≤ t.length := by
  unfold cutL withoutL
  split
  · exact List.length_filter_le _ _
  · split
    · exact List.length_filter_le _ _
    · exact Nat.le_refl _
theorem putStep_count (e : Ent) (both : Bool) (s : List Ent × Bool) (x : Ent) : (putStep e both s x).1.length + (if (putStep e both s x).2 then 0 else 1) ≤ s.1.length + (if s.2 then 0 else 1) + 1 := by
  obtain ⟨o, d⟩ := s
  unfold putStep
  by_cases h1 : orderL (partsB e.path) (partsB x.path) < 0 ∧ d = false
  · obtain ⟨h1, rfl⟩ := h1
    simp only [h1, true_and, if_true]
    split <;> simp
  · simp only [if_neg h1]
    split
    · simp
    · simp; omega
theorem putL_len (t : List Ent) (e : Ent) : (putL t e).length ≤ t.length + 1 := by
  have : ∀ (l : List Ent) (s : List Ent × Bool), (l.foldl (putStep e (bothB t e)) s).1.length + (if (l.foldl (putStep e (bothB t e)) s).2 then 0 else 1) ≤ s.1.length + (if s.2 then 0 else 1) + l.length := by
    intro l
    induction l with
    | nil => intro s; exact Nat.le_refl _
    | cons x r ih => intro s; rw [List.foldl_cons]; have := ih (putStep e (bothB t e) s x); have := putStep_count e (bothB t e) s x; simp only [List.length_cons]; omega
  have h := this t ([], false)
  unfold putL putGo putEnd
  generalize t.foldl (putStep e (bothB t e)) ([], false) = r at h ⊢
  cases hr : r.2 <;> simp [hr] at h ⊢ <;> omega
theorem putStep_sub {e : Ent} {both : Bool} {s : List Ent × Bool} {x y : Ent} (h : y ∈ (putStep e both s x).1) : y ∈ s.1 ∨ y = e ∨ y = x := by
  obtain ⟨o, d⟩ := s
  unfold putStep at h
  by_cases h1 : orderL (partsB e.path) (partsB x.path) < 0 ∧ d = false
  · simp only [if_pos h1] at h
    split at h <;> simp at h <;> rcases h with h | h <;> simp_all
  · simp only [if_neg h1] at h
    split at h <;> simp at h <;> simp_all
    rcases h with h | h <;> simp_all
theorem putL_sub {t : List Ent} {e y : Ent} (h : y ∈ putL t e) : y ∈ t ∨ y = e := by
  have : ∀ (l : List Ent) (s : List Ent × Bool), y ∈ (l.foldl (putStep e (bothB t e)) s).1 → y ∈ s.1 ∨ y = e ∨ y ∈ l := by
    intro l
    induction l with
    | nil => intro s hs; exact .inl hs
    | cons x r ih =>
      intro s hs
      rw [List.foldl_cons] at hs
      rcases ih _ hs with h | h | h
      · rcases putStep_sub h with h | h | h
        · exact .inl h
        · exact .inr (.inl h)
        · exact .inr (.inr (by simp [h]))
      · exact .inr (.inl h)
      · exact .inr (.inr (by simp [h]))
  unfold putL putGo putEnd at h
  have k := this t ([], false)
  split at h
  · rcases k h with h | h | h
    · simp at h
    · exact .inr h
    · exact .inl h
  · rcases List.mem_append.1 h with h | h
    · rcases k h with h | h | h
      · simp at h
      · exact .inr h
      · exact .inl h
    · exact .inr (by simpa using h)
end Go.Proofs.YtpkabccinhfmbaaGreatDoor
namespace Go.Proofs.YtpkabccinhfmbaaGreatDoor
open Go.RowKit

theorem missB_5 {a : List Ent} {c : Ent} (h : c.kind = 5) : missB a c = !decide (kindL a c.path = 1) := by
  unfold missB; rw [h]; simp
theorem missB_4 {a : List Ent} {c : Ent} (h : c.kind = 4) : missB a c = decide (kindL a c.path = 0) := by
  unfold missB; rw [h]; simp
theorem missB_no {a : List Ent} {c : Ent} (h : c.kind ≠ 4) (h5 : c.kind ≠ 5) : missB a c = false := by
  unfold missB; rw [decide_eq_false h, decide_eq_false h5]; rfl
theorem cutL_5 {t : List Ent} {c : Ent} (h : c.kind = 5) : cutL t c = withoutL t c.path false := if_pos h
theorem cutL_4 {t : List Ent} {c : Ent} (h : c.kind = 4) : cutL t c = withoutL t c.path true := by unfold cutL; rw [if_neg (by rw [h]; decide), if_pos h]
theorem cutL_no {t : List Ent} {c : Ent} (h : c.kind ≠ 4) (h5 : c.kind ≠ 5) : cutL t c = t := by unfold cutL; rw [if_neg h5, if_neg h]
theorem patchL_cut {a l : List Ent} {i : Nat} (h : cutAll a l 0 a = .error i) : patchL a l = ([], 8, (i : Int)) := by unfold patchL; rw [h]
theorem patchL_put {a l t : List Ent} {i : Nat} (h : cutAll a l 0 a = .ok t) (h2 : putAll l 0 t = .error i) : patchL a l = ([], 9, (i : Int)) := by unfold patchL; rw [h]; simp only [h2]
theorem patchL_many {a l t t2 : List Ent} (h : cutAll a l 0 a = .ok t) (h2 : putAll l 0 t = .ok t2) (h3 : 40 < t2.length) : patchL a l = ([], 10, -1) := by unfold patchL; rw [h]; simp only [h2, if_pos h3]
theorem patchL_ok {a l t t2 : List Ent} (h : cutAll a l 0 a = .ok t) (h2 : putAll l 0 t = .ok t2) (h3 : ¬ 40 < t2.length) : patchL a l = (t2, 0, -1) := by unfold patchL; rw [h]; simp only [h2, if_neg h3]
end Go.Proofs.YtpkabccinhfmbaaGreatDoor
