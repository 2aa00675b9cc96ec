/-
  Plain words: a list of entries with something taken out, with an entry put: the list of the tree so changed. No program in sight.
-/
import Derived.Test.YtjampkdbieoboaaGreatDoorY03
import Derived.Test.YtjampkdbieoboaaGreatDoorY09
import Derived.Test.YtjampkdbieoboaaGreatDoorY13
set_option linter.unusedVariables false
set_option linter.unusedSimpArgs false
namespace Go.Proofs.YtjampkdbieoboaaGreatDoor

theorem belowB_iff {p d : List UInt8} : belowB p d = true ↔ partsB d <+: partsB p ∧ partsB p ≠ partsB d := by
  unfold belowB
  by_cases hd : d = []
  · subst hd
    rw [if_pos rfl, show partsB ([] : List UInt8) = [] from rfl]
    cases p with
    | nil => simp [partsB]
    | cons x r => exact ⟨fun _ => ⟨List.nil_prefix, partsB_ne (by simp)⟩, fun _ => rfl⟩
  · rw [if_neg hd]
    constructor
    · intro h
      refine ⟨below_parts hd h, fun e => ?_⟩
      have := parts_same e
      subst this
      have := (List.isPrefixOf_iff_prefix.1 h).length_le
      simp at this; omega
    · rintro ⟨h1, h2⟩
      exact parts_below hd h1 (fun e => h2 e.symm)
theorem Lists.filter {l : List Ent} {F G : Forest} (h : Lists l F) (keep : Ent → Bool) (h1 : ∀ e ∈ l, keep e = true → G (partsB e.path) = F (partsB e.path)) (h2 : ∀ e ∈ l, keep e = false → G (partsB e.path) = none) (h3 : ∀ q z, G q = some z → F q = some z) (h4 : G [] = F []) : Lists (l.filter keep) G := by
  refine ⟨fun e he => h.each e (List.mem_filter.1 he).1, fun e he => ?_, fun p x hx => ?_, h4.trans h.root, h.rise.sublist List.filter_sublist⟩
  · obtain ⟨m1, m2⟩ := List.mem_filter.1 he
    rw [h1 e m1 m2]; exact h.mem e m1
  · rcases h.only p x (h3 p x hx) with e1 | ⟨e, he, rfl, hn⟩
    · exact .inl e1
    · refine .inr ⟨e, List.mem_filter.2 ⟨he, ?_⟩, rfl, hn⟩
      cases hk : keep e with
      | true => rfl
      | false => rw [h2 e he hk] at hx; cases hx
theorem keepW_false {p : List UInt8} {x : Ent} : keepW p false x = true ↔ ¬ (partsB p <+: partsB x.path ∧ partsB x.path ≠ partsB p) := by
  unfold keepW
  rw [← belowB_iff]
  cases belowB x.path p <;> simp
theorem keepW_true {p : List UInt8} {x : Ent} : keepW p true x = true ↔ ¬ partsB p <+: partsB x.path := by
  unfold keepW
  by_cases hx : x.path = p
  · rw [hx]; simp
  · have hne : partsB x.path ≠ partsB p := fun e => hx (parts_same e)
    have := @belowB_iff x.path p
    cases hb : belowB x.path p with
    | true => rw [hb] at this; have := (this.1 rfl).1; simp [this]
    | false =>
      rw [hb] at this
      have h2 : ¬ partsB p <+: partsB x.path := fun h => by have := this.2 ⟨h, hne⟩; cases this
      simp [hx, h2]
theorem Lists.clear {l : List Ent} {F : Forest} (h : Lists l F) (p : List UInt8) : Lists (withoutL l p false) (clearF F (partsB p)) := by
  unfold withoutL
  refine h.filter _ (fun e _ hk => ?_) (fun e _ hk => ?_) (fun q z hz => (clearF_sub hz).1) ?_
  · unfold clearF; rw [if_neg (keepW_false.1 hk)]
  · unfold clearF
    rw [if_pos]
    exact Classical.not_not.1 fun hn => by rw [keepW_false.2 hn] at hk; cases hk
  · unfold clearF; rw [if_neg]; rintro ⟨h1, h2⟩; exact h2 (List.prefix_nil.1 h1).symm
theorem Lists.cut {l : List Ent} {F : Forest} (h : Lists l F) (p : List UInt8) (hp : p ≠ []) : Lists (withoutL l p true) (cutF F (partsB p)) := by
  unfold withoutL
  refine h.filter _ (fun e _ hk => ?_) (fun e _ hk => ?_) (fun q z hz => (cutF_sub hz).1) ?_
  · exact cutF_off (keepW_true.1 hk)
  · refine cutF_on (Classical.not_not.1 fun hn => ?_)
    rw [keepW_true.2 hn] at hk; cases hk
  · exact cutF_off (fun h1 => partsB_ne hp (List.prefix_nil.1 h1))

/-- what stays of a tree where an entry is put -/
def keepP (e : Ent) (both : Bool) (x : Ent) : Bool := !(decide (orderL (partsB e.path) (partsB x.path) = 0) || (belowB x.path e.path && !both))
theorem putStep_form (e x : Ent) (both d : Bool) (out : List Ent) : putStep e both (out, d) x =
    if orderL (partsB e.path) (partsB x.path) < 0 ∧ d = false then (out ++ [e] ++ (if keepP e both x then [x] else []), true) else (out ++ (if keepP e both x then [x] else []), d) := by
  have hk : (orderL (partsB e.path) (partsB x.path) = 0 ∨ (belowB x.path e.path = true ∧ both = false)) ↔ keepP e both x = false := by
    unfold keepP
    by_cases h0 : orderL (partsB e.path) (partsB x.path) = 0
    · simp [h0]
    · cases belowB x.path e.path <;> cases both <;> simp [h0]
  unfold putStep
  simp only [hk]
  by_cases h1 : orderL (partsB e.path) (partsB x.path) < 0 ∧ d = false
  · simp only [if_pos h1]
    cases keepP e both x <;> simp
  · simp only [if_neg h1]
    cases keepP e both x <;> simp
theorem putStep_on (e : Ent) (both : Bool) (t : List Ent) : ∀ out, t.foldl (putStep e both) (out, true) = (out ++ t.filter (keepP e both), true) := by
  induction t with
  | nil => intro out; simp
  | cons x r ih =>
    intro out
    rw [List.foldl_cons, putStep_form, if_neg (by simp), ih]
    cases hk : keepP e both x <;> simp [hk]
theorem putStep_off (e : Ent) (both : Bool) (t : List Ent) (h : ∀ x ∈ t, ¬ orderL (partsB e.path) (partsB x.path) < 0) : ∀ out, t.foldl (putStep e both) (out, false) = (out ++ t.filter (keepP e both), false) := by
  induction t with
  | nil => intro out; simp
  | cons x r ih =>
    intro out
    rw [List.foldl_cons, putStep_form, if_neg (fun hh => h x (by simp) hh.1), ih (fun y hy => h y (by simp [hy]))]
    cases hk : keepP e both x <;> simp [hk]
theorem split_at {e : Ent} (t : List Ent) (hr : RiseE t) : ∃ t1 t2, t = t1 ++ t2 ∧ (∀ x ∈ t1, ¬ orderL (partsB e.path) (partsB x.path) < 0) ∧ (∀ x ∈ t2, orderL (partsB e.path) (partsB x.path) < 0) := by
  induction t with
  | nil => exact ⟨[], [], rfl, by simp, by simp⟩
  | cons x r ih =>
    by_cases hx : orderL (partsB e.path) (partsB x.path) < 0
    · refine ⟨[], x :: r, rfl, by simp, fun y hy => ?_⟩
      rcases List.mem_cons.1 hy with rfl | hy
      · exact hx
      · exact orderL_trans hx ((List.pairwise_cons.1 hr).1 y hy)
    · obtain ⟨t1, t2, rfl, h1, h2⟩ := ih (List.pairwise_cons.1 hr).2
      refine ⟨x :: t1, t2, rfl, fun y hy => ?_, h2⟩
      rcases List.mem_cons.1 hy with rfl | hy
      · exact hx
      · exact h1 y hy
theorem putL_form {e : Ent} {t1 t2 : List Ent} (h1 : ∀ x ∈ t1, ¬ orderL (partsB e.path) (partsB x.path) < 0) (h2 : ∀ x ∈ t2, orderL (partsB e.path) (partsB x.path) < 0) :
    putL (t1 ++ t2) e = t1.filter (keepP e (bothB (t1 ++ t2) e)) ++ e :: t2.filter (keepP e (bothB (t1 ++ t2) e)) := by
  unfold putL putGo
  generalize bothB (t1 ++ t2) e = both
  rw [List.foldl_append, putStep_off e both t1 h1]
  cases t2 with
  | nil => simp [putEnd]
  | cons x r =>
    rw [List.foldl_cons, putStep_form, if_pos ⟨h2 x (by simp), rfl⟩, putStep_on]
    cases hk : keepP e both x <;> simp [putEnd, hk]
theorem Lists.put {t : List Ent} {F : Forest} (h : Lists t F) (e : Ent) (hp : pathB e.path = true) (hne : e.path ≠ []) (hg : goodB e = true) : Lists (putL t e) (putF F (partsB e.path) (ndOf e)) := by
  obtain ⟨t1, t2, ht, h1, h2⟩ := split_at (e := e) t h.rise
  have hPne := partsB_ne hne
  have hboth : bothB t e = true ↔ (ndOf e).kind = 1 ∧ isDirF F (partsB e.path) = true := by
    unfold bothB
    rw [Bool.and_eq_true, kind_same h _ (Classical.em _), decide_eq_true_eq]
    exact And.comm
  have hkeep : ∀ x, keepP e (bothB t e) x = true ↔ partsB x.path ≠ partsB e.path ∧ (partsB e.path <+: partsB x.path → (ndOf e).kind = 1 ∧ isDirF F (partsB e.path) = true) := by
    intro x
    rw [← hboth]
    unfold keepP
    by_cases h0 : partsB x.path = partsB e.path
    · rw [h0, orderL_refl]; simp
    · have h3 : ¬ orderL (partsB e.path) (partsB x.path) = 0 := fun h => h0 (orderL_eq h).symm
      have h4 := @belowB_iff x.path e.path
      cases hb : belowB x.path e.path with
      | true =>
        have := (h4.1 hb).1
        cases bothB t e <;> simp [h3, h0, this]
      | false =>
        have h5 : ¬ partsB e.path <+: partsB x.path := fun hpre => by rw [h4.2 ⟨hpre, h0⟩] at hb; cases hb
        simp [h3, h0, h5]
  have hform : putL t e = t1.filter (keepP e (bothB t e)) ++ e :: t2.filter (keepP e (bothB t e)) := by rw [ht]; exact putL_form h1 h2
  have hmem : ∀ x, x ∈ putL t e ↔ x = e ∨ (x ∈ t ∧ keepP e (bothB t e) x = true) := by
    intro x
    rw [hform, List.mem_append, List.mem_cons, List.mem_filter, List.mem_filter]
    constructor
    · rintro (⟨m, k⟩ | rfl | ⟨m, k⟩)
      · exact .inr ⟨by rw [ht]; simp [m], k⟩
      · exact .inl rfl
      · exact .inr ⟨by rw [ht]; simp [m], k⟩
    · rintro (rfl | ⟨m, k⟩)
      · exact .inr (.inl rfl)
      · rw [ht] at m
        rcases List.mem_append.1 m with m | m
        · exact .inl ⟨m, k⟩
        · exact .inr (.inr ⟨m, k⟩)
  have hrise := h.rise
  rw [ht] at hrise
  have hrp := List.pairwise_append.1 hrise
  refine ⟨fun x hx => ?_, fun x hx => ?_, fun q z hz => ?_, ?_, ?_⟩
  · rcases (hmem x).1 hx with rfl | ⟨m, _⟩
    · exact ⟨hp, hne, hg⟩
    · exact h.each x m
  · rcases (hmem x).1 hx with rfl | ⟨m, k⟩
    · exact putF_same _ _ _
    · obtain ⟨k1, k2⟩ := (hkeep x).1 k
      rw [← h.mem x m]
      by_cases hpre : partsB e.path <+: partsB x.path
      · rw [putF_under hpre k1, if_pos (k2 hpre)]
      · exact putF_off hpre
  · by_cases hq : q = partsB e.path
    · subst hq
      rw [putF_same] at hz
      exact .inr ⟨e, (hmem e).2 (.inl rfl), rfl, Option.some.inj hz⟩
    · rcases h.only q z (putF_old hq hz) with e1 | ⟨x, m, rfl, hn⟩
      · exact .inl e1
      · refine .inr ⟨x, (hmem x).2 (.inr ⟨m, (hkeep x).2 ⟨hq, fun hpre => ?_⟩⟩), rfl, hn⟩
        rw [putF_under hpre hq] at hz
        split at hz
        · rename_i hc; exact hc
        · cases hz
  · rw [putF_off (fun hpre => hPne (List.prefix_nil.1 hpre))]; exact h.root
  · rw [hform]
    refine List.pairwise_append.2 ⟨hrp.1.sublist List.filter_sublist, List.pairwise_cons.2 ⟨fun x hx => h2 x (List.mem_filter.1 hx).1, hrp.2.1.sublist List.filter_sublist⟩, fun x hx y hy => ?_⟩
    obtain ⟨mx, kx⟩ := List.mem_filter.1 hx
    rcases List.mem_cons.1 hy with rfl | hy
    · have h3 : ¬ orderL (partsB y.path) (partsB x.path) = 0 := fun h => ((hkeep x).1 kx).1 (orderL_eq h).symm
      have := h1 x mx
      exact orderL_neg (by omega)
    · exact hrp.2.2 x mx y (List.mem_filter.1 hy).1
end Go.Proofs.YtjampkdbieoboaaGreatDoor
