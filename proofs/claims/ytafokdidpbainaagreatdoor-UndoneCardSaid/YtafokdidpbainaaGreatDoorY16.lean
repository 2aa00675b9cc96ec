/-
  Plain words: a list of entries with something taken out, with an entry put: the list of the tree so changed. No program in sight.
  Plain words: what makes one tree of another makes it, and may be. No program in sight.
  Plain words: what makes one tree of another, done, gives it. No program in sight.
-/
import Derived.Test.YtafokdidpbainaaGreatDoorY01
import Derived.Test.YtafokdidpbainaaGreatDoorY07
import Derived.Test.YtafokdidpbainaaGreatDoorY08
set_option linter.unusedVariables false
set_option linter.unusedSimpArgs false
namespace Go.Proofs.YtafokdidpbainaaGreatDoor

theorem belowB_iff {p d : List UInt8} : belowB p d = true ↔ partsB d <+: partsB p ∧ partsB p ≠ partsB d := by
  unfold belowB
  by_cases hd : d = []
  · subst hd
    rw [if_pos rfl, show partsB ([] : List UInt8) = [] from rfl]
    cases p with
    | nil => simp [partsB]
    | cons x r => exact ⟨fun _ => ⟨List.nil_prefix, partsB_ne (by simp)⟩, fun _ => rfl⟩
  · rw [if_neg hd]
    constructor
    · intro h
      refine ⟨below_parts hd h, fun e => ?_⟩
      have := parts_same e
      subst this
      have := (List.isPrefixOf_iff_prefix.1 h).length_le
      simp at this; omega
    · rintro ⟨h1, h2⟩
      exact parts_below hd h1 (fun e => h2 e.symm)
theorem Lists.filter {l : List Ent} {F G : Forest} (h : Lists l F) (keep : Ent → Bool) (h1 : ∀ e ∈ l, keep e = true → G (partsB e.path) = F (partsB e.path)) (h2 : ∀ e ∈ l, keep e = false → G (partsB e.path) = none) (h3 : ∀ q z, G q = some z → F q = some z) (h4 : G [] = F []) : Lists (l.filter keep) G := by
  refine ⟨fun e he => h.each e (List.mem_filter.1 he).1, fun e he => ?_, fun p x hx => ?_, h4.trans h.root, h.rise.sublist List.filter_sublist⟩
  · obtain ⟨m1, m2⟩ := List.mem_filter.1 he
    rw [h1 e m1 m2]; exact h.mem e m1
  · rcases h.only p x (h3 p x hx) with e1 | ⟨e, he, rfl, hn⟩
    · exact .inl e1
    · refine .inr ⟨e, List.mem_filter.2 ⟨he, ?_⟩, rfl, hn⟩
      cases hk : keep e with
      | true => rfl
      | false => rw [h2 e he hk] at hx; cases hx
theorem keepW_false {p : List UInt8} {x : Ent} : keepW p false x = true ↔ ¬ (partsB p <+: partsB x.path ∧ partsB x.path ≠ partsB p) := by
  unfold keepW
  rw [← belowB_iff]
  cases belowB x.path p <;> simp
theorem keepW_true {p : List UInt8} {x : Ent} : keepW p true x = true ↔ ¬ partsB p <+: partsB x.path := by
  unfold keepW
  by_cases hx : x.path = p
  · rw [hx]; simp
  · have hne : partsB x.path ≠ partsB p := fun e => hx (parts_same e)
    have := @belowB_iff x.path p
    cases hb : belowB x.path p with
    | true => rw [hb] at this; have := (this.1 rfl).1; simp [this]
    | false =>
      rw [hb] at this
      have h2 : ¬ partsB p <+: partsB x.path := fun h => by have := this.2 ⟨h, hne⟩; cases this
      simp [hx, h2]
theorem Lists.clear {l : List Ent} {F : Forest} (h : Lists l F) (p : List UInt8) : Lists (withoutL l p false) (clearF F (partsB p)) := by
  unfold withoutL
  refine h.filter _ (fun e _ hk => ?_) (fun e _ hk => ?_) (fun q z hz => (clearF_sub hz).1) ?_
  · unfold clearF; rw [if_neg (keepW_false.1 hk)]
  · unfold clearF
    rw [if_pos]
    exact Classical.not_not.1 fun hn => by rw [keepW_false.2 hn] at hk; cases hk
  · unfold clearF; rw [if_neg]; rintro ⟨h1, h2⟩; exact h2 (List.prefix_nil.1 h1).symm
theorem Lists.cut {l : List Ent} {F : Forest} (h : Lists l F) (p : List UInt8) (hp : p ≠ []) : Lists (withoutL l p true) (cutF F (partsB p)) := by
  unfold withoutL
  refine h.filter _ (fun e _ hk => ?_) (fun e _ hk => ?_) (fun q z hz => (cutF_sub hz).1) ?_
  · exact cutF_off (keepW_true.1 hk)
  · refine cutF_on (Classical.not_not.1 fun hn => ?_)
    rw [keepW_true.2 hn] at hk; cases hk
  · exact cutF_off (fun h1 => partsB_ne hp (List.prefix_nil.1 h1))

/-- what stays of a tree where an entry is put -/
def keepP (e : Ent) (both : Bool) (x : Ent) : Bool := !(decide (orderL (partsB e.path) (partsB x.path) = 0) || (belowB x.path e.path && !both))
theorem putStep_form (e x : Ent) (both d : Bool) (out : List Ent) : putStep e both (out, d) x =
    if orderL (partsB e.path) (partsB x.path) < 0 ∧ d = false then (out ++ [e] ++ (if keepP e both x then [x] else []), true) else (out ++ (if keepP e both x then [x] else []), d) := by
  have hk : (orderL (partsB e.path) (partsB x.path) = 0 ∨ (belowB x.path e.path = true ∧ both = false)) ↔ keepP e both x = false := by
    unfold keepP
    by_cases h0 : orderL (partsB e.path) (partsB x.path) = 0
    · simp [h0]
    · cases belowB x.path e.path <;> cases both <;> simp [h0]
  unfold putStep
  simp only [hk]
  by_cases h1 : orderL (partsB e.path) (partsB x.path) < 0 ∧ d = false
  · simp only [if_pos h1]
    cases keepP e both x <;> simp
  · simp only [if_neg h1]
    cases keepP e both x <;> simp
theorem putStep_on (e : Ent) (both : Bool) (t : List Ent) : ∀ out, t.foldl (putStep e both) (out, true) = (out ++ t.filter (keepP e both), true) := by
  induction t with
  | nil => intro out; simp
  | cons x r ih =>
    intro out
    rw [List.foldl_cons, putStep_form, if_neg (by simp), ih]
    cases hk : keepP e both x <;> simp [hk]
theorem putStep_off (e : Ent) (both : Bool) (t : List Ent) (h : ∀ x ∈ t, ¬ orderL (partsB e.path) (partsB x.path) < 0) : ∀ out, t.foldl (putStep e both) (out, false) = (out ++ t.filter (keepP e both), false) := by
  induction t with
  | nil => intro out; simp
  | cons x r ih =>
    intro out
    rw [List.foldl_cons, putStep_form, if_neg (fun hh => h x (by simp) hh.1), ih (fun y hy => h y (by simp [hy]))]
    cases hk : keepP e both x <;> simp [hk]
theorem split_at {e : Ent} (t : List Ent) (hr : RiseE t) : ∃ t1 t2, t = t1 ++ t2 ∧ (∀ x ∈ t1, ¬ orderL (partsB e.path) (partsB x.path) < 0) ∧ (∀ x ∈ t2, orderL (partsB e.path) (partsB x.path) < 0) := by
  induction t with
  | nil => exact ⟨[], [], rfl, by simp, by simp⟩
  | cons x r ih =>
    by_cases hx : orderL (partsB e.path) (partsB x.path) < 0
    · refine ⟨[], x :: r, rfl, by simp, fun y hy => ?_⟩
      rcases List.mem_cons.1 hy with rfl | hy
      · exact hx
      · exact orderL_trans hx ((List.pairwise_cons.1 hr).1 y hy)
    · obtain ⟨t1, t2, rfl, h1, h2⟩ := ih (List.pairwise_cons.1 hr).2
      refine ⟨x :: t1, t2, rfl, fun y hy => ?_, h2⟩
      rcases List.mem_cons.1 hy with rfl | hy
      · exact hx
      · exact h1 y hy
theorem putL_form {e : Ent} {t1 t2 : List Ent} (h1 : ∀ x ∈ t1, ¬ orderL (partsB e.path) (partsB x.path) < 0) (h2 : ∀ x ∈ t2, orderL (partsB e.path) (partsB x.path) < 0) :
    putL (t1 ++ t2) e = t1.filter (keepP e (bothB (t1 ++ t2) e)) ++ e :: t2.filter (keepP e (bothB (t1 ++ t2) e)) := by
  unfold putL putGo
  generalize bothB (t1 ++ t2) e = both
  rw [List.foldl_append, putStep_off e both t1 h1]
  cases t2 with
  | nil => simp [putEnd]
  | cons x r =>
    rw [List.foldl_cons, putStep_form, if_pos ⟨h2 x (by simp), rfl⟩, putStep_on]
    cases hk : keepP e both x <;> simp [putEnd, hk]
theorem Lists.put {t : List Ent} {F : Forest} (h : Lists t F) (e : Ent) (hp : pathB e.path = true) (hne : e.path ≠ []) (hg : goodB e = true) : Lists (putL t e) (putF F (partsB e.path) (ndOf e)) := by
  obtain ⟨t1, t2, ht, h1, h2⟩ := split_at (e := e) t h.rise
  have hPne := partsB_ne hne
  have hboth : bothB t e = true ↔ (ndOf e).kind = 1 ∧ isDirF F (partsB e.path) = true := by
    unfold bothB
    rw [Bool.and_eq_true, kind_same h _ (Classical.em _), decide_eq_true_eq]
    exact And.comm
  have hkeep : ∀ x, keepP e (bothB t e) x = true ↔ partsB x.path ≠ partsB e.path ∧ (partsB e.path <+: partsB x.path → (ndOf e).kind = 1 ∧ isDirF F (partsB e.path) = true) := by
    intro x
    rw [← hboth]
    unfold keepP
    by_cases h0 : partsB x.path = partsB e.path
    · rw [h0, orderL_refl]; simp
    · have h3 : ¬ orderL (partsB e.path) (partsB x.path) = 0 := fun h => h0 (orderL_eq h).symm
      have h4 := @belowB_iff x.path e.path
      cases hb : belowB x.path e.path with
      | true =>
        have := (h4.1 hb).1
        cases bothB t e <;> simp [h3, h0, this]
      | false =>
        have h5 : ¬ partsB e.path <+: partsB x.path := fun hpre => by rw [h4.2 ⟨hpre, h0⟩] at hb; cases hb
        simp [h3, h0, h5]
  have hform : putL t e = t1.filter (keepP e (bothB t e)) ++ e :: t2.filter (keepP e (bothB t e)) := by rw [ht]; exact putL_form h1 h2
  have hmem : ∀ x, x ∈ putL t e ↔ x = e ∨ (x ∈ t ∧ keepP e (bothB t e) x = true) := by
    intro x
    rw [hform, List.mem_append, List.mem_cons, List.mem_filter, List.mem_filter]
    constructor
    · rintro (⟨m, k⟩ | rfl | ⟨m, k⟩)
      · exact .inr ⟨by rw [ht]; simp [m], k⟩
      · exact .inl rfl
      · exact .inr ⟨by rw [ht]; simp [m], k⟩
    · rintro (rfl | ⟨m, k⟩)
      · exact .inr (.inl rfl)
      · rw [ht] at m
        rcases List.mem_append.1 m with m | m
        · exact .inl ⟨m, k⟩
        · exact .inr (.inr ⟨m, k⟩)
  have hrise := h.rise
  rw [ht] at hrise
  have hrp := List.pairwise_append.1 hrise
  refine ⟨fun x hx => ?_, fun x hx => ?_, fun q z hz => ?_, ?_, ?_⟩
  · rcases (hmem x).1 hx with rfl | ⟨m, _⟩
    · exact ⟨hp, hne, hg⟩
    · exact h.each x m
  · rcases (hmem x).1 hx with rfl | ⟨m, k⟩
    · exact putF_same _ _ _
    · obtain ⟨k1, k2⟩ := (hkeep x).1 k
      rw [← h.mem x m]
      by_cases hpre : partsB e.path <+: partsB x.path
      · rw [putF_under hpre k1, if_pos (k2 hpre)]
      · exact putF_off hpre
  · by_cases hq : q = partsB e.path
    · subst hq
      rw [putF_same] at hz
      exact .inr ⟨e, (hmem e).2 (.inl rfl), rfl, Option.some.inj hz⟩
    · rcases h.only q z (putF_old hq hz) with e1 | ⟨x, m, rfl, hn⟩
      · exact .inl e1
      · refine .inr ⟨x, (hmem x).2 (.inr ⟨m, (hkeep x).2 ⟨hq, fun hpre => ?_⟩⟩), rfl, hn⟩
        rw [putF_under hpre hq] at hz
        split at hz
        · rename_i hc; exact hc
        · cases hz
  · rw [putF_off (fun hpre => hPne (List.prefix_nil.1 hpre))]; exact h.root
  · rw [hform]
    refine List.pairwise_append.2 ⟨hrp.1.sublist List.filter_sublist, List.pairwise_cons.2 ⟨fun x hx => h2 x (List.mem_filter.1 hx).1, hrp.2.1.sublist List.filter_sublist⟩, fun x hx y hy => ?_⟩
    obtain ⟨mx, kx⟩ := List.mem_filter.1 hx
    rcases List.mem_cons.1 hy with rfl | hy
    · have h3 : ¬ orderL (partsB y.path) (partsB x.path) = 0 := fun h => ((hkeep x).1 kx).1 (orderL_eq h).symm
      have := h1 x mx
      exact orderL_neg (by omega)
    · exact hrp.2.2 x mx y (List.mem_filter.1 hy).1
end Go.Proofs.YtafokdidpbainaaGreatDoor
namespace Go.Proofs.YtafokdidpbainaaGreatDoor

theorem Lists.uniqL {l m : List Ent} {F : Forest} (h : Lists l F) (k : Lists m F) : l = m := by
  refine riseE_unique h.rise k.rise fun x => ?_
  have half : ∀ {l m : List Ent}, Lists l F → Lists m F → x ∈ l → x ∈ m := by
    intro l m h k hx
    have h1 := h.mem x hx
    rcases k.only _ _ h1 with e | ⟨y, hy, e1, e2⟩
    · exact absurd e (partsB_ne (h.each x hx).2.1)
    · rw [← ent_eq e1 e2]; exact hy
  exact ⟨half h k, half k h⟩
theorem dir_prefix {G : Forest} (hG : IsTree G) {r q : Pth} (hr : r <+: q) (hne : r ≠ q) (h : (G q).isSome = true) : isDirF G r = true := by
  obtain ⟨s, rfl⟩ := hr
  cases s with
  | nil => exact absurd (List.append_nil r).symm hne
  | cons k s =>
    have h1 : (G (r ++ [k])).isSome = true := by
      cases hg : G (r ++ [k]) with
      | some _ => rfl
      | none =>
        have := hG.pre _ s hg
        rw [show r ++ k :: s = r ++ [k] ++ s by simp, this] at h; cases h
    obtain ⟨x, hx, hk⟩ := hG.up r k h1
    exact isDirF_iff.2 ⟨x, hx, hk⟩
theorem dirF_some {G : Forest} {q : Pth} (h : isDirF G q = true) : (G q).isSome = true := by
  obtain ⟨x, hx, _⟩ := isDirF_iff.1 h
  rw [hx]; rfl
def PutAt (F G : Forest) (q : Pth) (x : Nd) : Prop := G q = some x ∧ F q ≠ some x
def ClearAt (F G : Forest) (q : Pth) : Prop := isDirF F q = true ∧ isDirF G q = true ∧ lostB F G q = true
def GoneAt (F G : Forest) (q : Pth) : Prop := (F q).isSome = true ∧ G q = none ∧ isDirF G q.dropLast = true ∧ (isDirF F q.dropLast && isDirF G q.dropLast && lostB F G q.dropLast) = false
theorem mem_emit {a b : List Ent} {F G : Forest} (ha : Lists a F) (hb : Lists b G) {p : List UInt8} (hp : pathB p = true) (hne : p ≠ []) (c : Ent) :
    (c ∈ emit1 a b p ↔ ∃ x, PutAt F G (partsB p) x ∧ c = ⟨p, x.kind, x.mode, x.data⟩) ∧ (c ∈ emit2 a b p ↔ ClearAt F G (partsB p) ∧ c = ⟨p, 5, 0, []⟩) ∧ (c ∈ emit3 a b p ↔ GoneAt F G (partsB p) ∧ c = ⟨p, 4, 0, []⟩) := by
  have hq := partsB_ne hne
  have hj := joinB_parts p
  have hpj : partsB (joinB (partsB p)) = partsB p := by rw [hj]
  have hA := findL_of ha hq hpj
  have hB := findL_of hb hq hpj
  rw [hj] at hA hB
  have hu : (upB p).1 = joinB (partsB p).dropLast := by rw [← upB_parts hp, joinB_parts]
  have hpd : partsB (joinB (partsB p).dropLast) = (partsB p).dropLast := by rw [← upB_parts hp, joinB_parts]
  refine ⟨?_, ?_, ?_⟩
  · unfold emit1 PutAt
    rw [hA, hB]
    cases hG : G (partsB p) with
    | none => simp
    | some x =>
      have e1 : (Option.map (fun x : Nd => (⟨p, x.kind, x.mode, x.data⟩ : Ent)) (F (partsB p)) = some ⟨p, x.kind, x.mode, x.data⟩) ↔ F (partsB p) = some x := by
        cases F (partsB p) with
        | none => simp
        | some y =>
          obtain ⟨y1, y2, y3⟩ := y
          obtain ⟨x1, x2, x3⟩ := x
          simp
      simp only [Option.map_some, e1, Option.some.injEq]
      by_cases h : F (partsB p) = some x
      · rw [if_pos h]
        simp only [List.not_mem_nil, false_iff, not_exists]
        rintro y ⟨⟨rfl, h2⟩, _⟩; exact h2 h
      · rw [if_neg h, List.mem_singleton]
        exact ⟨fun e => ⟨x, ⟨rfl, h⟩, e⟩, fun ⟨y, ⟨h1, _⟩, e⟩ => by rw [e, h1]⟩
  · unfold emit2 ClearAt
    have hc := cleared_lost ha hb hpj
    rw [hj] at hc
    rw [hc]
    by_cases h : (isDirF F (partsB p) && isDirF G (partsB p) && lostB F G (partsB p)) = true
    · rw [if_pos h, List.mem_singleton]
      simp only [Bool.and_eq_true] at h
      exact ⟨fun e => ⟨⟨h.1.1, h.1.2, h.2⟩, e⟩, fun e => e.2⟩
    · rw [if_neg h]
      simp only [Bool.and_eq_true] at h
      simp only [List.not_mem_nil, false_iff]
      rintro ⟨⟨h1, h2, h3⟩, _⟩; exact h ⟨⟨h1, h2⟩, h3⟩
  · unfold emit3 GoneAt
    have hc := cleared_lost ha hb hpd
    have hk : kindL b (upB p).1 = 1 ↔ isDirF G (partsB p).dropLast = true := by
      have := kind_same hb (upB p).1 (Classical.em _)
      rw [upB_parts hp] at this
      rw [← this, decide_eq_true_eq]
    have e1 : (findL a p).isSome = (F (partsB p)).isSome := by rw [hA, Option.isSome_map]
    have e2 : ((findL b p).isSome = false) ↔ G (partsB p) = none := by rw [hB, Option.isSome_map]; cases G (partsB p) <;> simp
    have hcond : ((findL a p).isSome = true ∧ (findL b p).isSome = false ∧ kindL b (upB p).1 = 1 ∧ clearedL a b (upB p).1 = false) ↔ ((F (partsB p)).isSome = true ∧ G (partsB p) = none ∧ isDirF G (partsB p).dropLast = true ∧ (isDirF F (partsB p).dropLast && isDirF G (partsB p).dropLast && lostB F G (partsB p).dropLast) = false) := by
      rw [hk, e1, e2, hu, hc]
    by_cases h : (F (partsB p)).isSome = true ∧ G (partsB p) = none ∧ isDirF G (partsB p).dropLast = true ∧ (isDirF F (partsB p).dropLast && isDirF G (partsB p).dropLast && lostB F G (partsB p).dropLast) = false
    · rw [if_pos (hcond.2 h), List.mem_singleton]
      exact ⟨fun e => ⟨h, e⟩, fun e => e.2⟩
    · rw [if_neg (fun hh => h (hcond.1 hh))]
      simp only [List.not_mem_nil, false_iff]
      rintro ⟨h1, _⟩; exact h h1
theorem mem_emitL {a b : List Ent} {F G : Forest} (ha : Lists a F) (hb : Lists b G) {p : List UInt8} (hp : pathB p = true) (hne : p ≠ []) (c : Ent) :
    c ∈ emitL a b p ↔ (∃ x, PutAt F G (partsB p) x ∧ c = ⟨p, x.kind, x.mode, x.data⟩) ∨ (ClearAt F G (partsB p) ∧ c = ⟨p, 5, 0, []⟩) ∨ (GoneAt F G (partsB p) ∧ c = ⟨p, 4, 0, []⟩) := by
  obtain ⟨h1, h2, h3⟩ := mem_emit ha hb hp hne c
  unfold emitL
  rw [List.mem_append, List.mem_append, h1, h2, h3]
theorem emit_root {a b : List Ent} {F G : Forest} (ha : Lists a F) (hb : Lists b G) : emitL a b [] = if isDirF F [] = true ∧ isDirF G [] = true ∧ lostB F G [] = true then [⟨[], 5, 0, []⟩] else [] := by
  have hc := cleared_lost ha hb (p := []) rfl
  rw [show joinB ([] : Pth) = [] from rfl] at hc
  unfold emitL emit1 emit2 emit3
  rw [findL_root hb, findL_root ha, hc]
  simp only [Bool.and_eq_true, and_assoc]
  simp
theorem mem_emit_root {a b : List Ent} {F G : Forest} (ha : Lists a F) (hb : Lists b G) (c : Ent) : c ∈ emitL a b [] ↔ ClearAt F G [] ∧ c = ⟨[], 5, 0, []⟩ := by
  rw [emit_root ha hb]
  unfold ClearAt
  split
  · rename_i h; rw [List.mem_singleton]; exact ⟨fun e => ⟨h, e⟩, fun e => e.2⟩
  · rename_i h; simp only [List.not_mem_nil, false_iff]; rintro ⟨h1, _⟩; exact h h1
theorem merge_paths {a b : List Ent} {F G : Forest} (ha : Lists a F) (hb : Lists b G) {p : List UInt8} (h : p ∈ mergeL a b) : pathB p = true ∧ p ≠ [] := by
  rcases (mergeL_mem _ _ _).1 h with ⟨e, he, rfl⟩ | ⟨e, he, rfl⟩
  · exact ⟨(ha.each e he).1, (ha.each e he).2.1⟩
  · exact ⟨(hb.each e he).1, (hb.each e he).2.1⟩
/-- what is written of each change -/
theorem mem_diff {a b : List Ent} {F G : Forest} (ha : Lists a F) (hb : Lists b G) {c : Ent} (hc : c ∈ diffL a b) :
    pathB c.path = true ∧ ((c.path ≠ [] ∧ ∃ x, PutAt F G (partsB c.path) x ∧ c = ⟨c.path, x.kind, x.mode, x.data⟩) ∨ (ClearAt F G (partsB c.path) ∧ c = ⟨c.path, 5, 0, []⟩) ∨ (c.path ≠ [] ∧ GoneAt F G (partsB c.path) ∧ c = ⟨c.path, 4, 0, []⟩)) := by
  obtain ⟨p, hp, hc⟩ := List.mem_flatMap.1 hc
  rcases List.mem_cons.1 hp with rfl | hp
  · obtain ⟨h, rfl⟩ := (mem_emit_root ha hb c).1 hc
    exact ⟨by decide, .inr (.inl ⟨h, rfl⟩)⟩
  · obtain ⟨h1, h2⟩ := merge_paths ha hb hp
    rcases (mem_emitL ha hb h1 h2 c).1 hc with ⟨x, hx, rfl⟩ | ⟨h, rfl⟩ | ⟨h, rfl⟩
    · exact ⟨h1, .inl ⟨h2, x, hx, rfl⟩⟩
    · exact ⟨h1, .inr (.inl ⟨h, rfl⟩)⟩
    · exact ⟨h1, .inr (.inr ⟨h2, h, rfl⟩)⟩
theorem in_merge {a b : List Ent} {F G : Forest} (ha : Lists a F) (hb : Lists b G) {q : Pth} (hq : q ≠ []) (h : (F q).isSome = true ∨ (G q).isSome = true) : ∃ p, p ∈ mergeL a b ∧ partsB p = q ∧ pathB p = true ∧ p ≠ [] := by
  have key : ∀ {l : List Ent} {F : Forest}, Lists l F → (F q).isSome = true → ∃ e ∈ l, partsB e.path = q := by
    intro l F h hs
    obtain ⟨x, hx⟩ := Option.isSome_iff_exists.1 hs
    rcases h.only q x hx with e | ⟨e, he, h1, _⟩
    · exact absurd e hq
    · exact ⟨e, he, h1⟩
  rcases h with h | h
  · obtain ⟨e, he, h1⟩ := key ha h
    exact ⟨e.path, (mergeL_mem _ _ _).2 (.inl ⟨e, he, rfl⟩), h1, (ha.each e he).1, (ha.each e he).2.1⟩
  · obtain ⟨e, he, h1⟩ := key hb h
    exact ⟨e.path, (mergeL_mem _ _ _).2 (.inr ⟨e, he, rfl⟩), h1, (hb.each e he).1, (hb.each e he).2.1⟩
theorem put_in {a b : List Ent} {F G : Forest} (ha : Lists a F) (hb : Lists b G) {q : Pth} (hq : q ≠ []) {x : Nd} (h : PutAt F G q x) : ∃ c ∈ diffL a b, partsB c.path = q ∧ ndOf c = x := by
  obtain ⟨p, h1, rfl, h2, h3⟩ := in_merge ha hb hq (.inr (by rw [h.1]; rfl))
  exact ⟨⟨p, x.kind, x.mode, x.data⟩, List.mem_flatMap.2 ⟨p, by simp [h1], (mem_emitL ha hb h2 h3 _).2 (.inl ⟨x, h, rfl⟩)⟩, rfl, rfl⟩
theorem clear_in {a b : List Ent} {F G : Forest} (ha : Lists a F) (hb : Lists b G) {q : Pth} (h : ClearAt F G q) : ∃ c ∈ diffL a b, partsB c.path = q ∧ c.kind = 5 := by
  by_cases hq : q = []
  · subst hq
    exact ⟨⟨[], 5, 0, []⟩, List.mem_flatMap.2 ⟨[], by simp, (mem_emit_root ha hb _).2 ⟨h, rfl⟩⟩, rfl, rfl⟩
  · obtain ⟨p, h1, rfl, h2, h3⟩ := in_merge ha hb hq (.inr (dirF_some h.2.1))
    exact ⟨⟨p, 5, 0, []⟩, List.mem_flatMap.2 ⟨p, by simp [h1], (mem_emitL ha hb h2 h3 _).2 (.inr (.inl ⟨h, rfl⟩))⟩, rfl, rfl⟩
theorem gone_in {a b : List Ent} {F G : Forest} (ha : Lists a F) (hb : Lists b G) {q : Pth} (hq : q ≠ []) (h : GoneAt F G q) : ∃ c ∈ diffL a b, partsB c.path = q ∧ c.kind = 4 := by
  obtain ⟨p, h1, rfl, h2, h3⟩ := in_merge ha hb hq (.inl h.1)
  exact ⟨⟨p, 4, 0, []⟩, List.mem_flatMap.2 ⟨p, by simp [h1], (mem_emitL ha hb h2 h3 _).2 (.inr (.inr ⟨h, rfl⟩))⟩, rfl, rfl⟩

/-- one change ahead of another -/
def NextE (x y : Ent) : Prop := orderL (partsB x.path) (partsB y.path) < 0 ∨ (x.path = y.path ∧ x.kind = 1 ∧ y.kind = 5)
theorem emit_pair {a b : List Ent} {F G : Forest} (ha : Lists a F) (hb : Lists b G) {p : List UInt8} (hp : pathB p = true) (hne : p ≠ []) : (emitL a b p).Pairwise NextE := by
  have hone : ∀ {P : Prop} [Decidable P] (e : Ent), (if P then [e] else ([] : List Ent)).Pairwise NextE := by
    intro P _ e; split <;> simp
  unfold emitL
  refine List.pairwise_append.2 ⟨?_, List.pairwise_append.2 ⟨hone _, hone _, fun x hx y hy => ?_⟩, fun x hx y hy => ?_⟩
  · unfold emit1
    split
    · split <;> simp
    · simp
  · obtain ⟨h1, _⟩ := (mem_emit ha hb hp hne x).2.1.1 hx
    obtain ⟨h2, _⟩ := (mem_emit ha hb hp hne y).2.2.1 hy
    have := dirF_some h1.2.1
    rw [h2.2.1] at this; cases this
  · obtain ⟨z, h1, rfl⟩ := (mem_emit ha hb hp hne x).1.1 hx
    rcases List.mem_append.1 hy with hy | hy
    · obtain ⟨h2, rfl⟩ := (mem_emit ha hb hp hne y).2.1.1 hy
      obtain ⟨u, hu, hk⟩ := isDirF_iff.1 h2.2.1
      rw [h1.1] at hu
      obtain rfl := Option.some.inj hu
      exact .inr ⟨rfl, hk, rfl⟩
    · obtain ⟨h2, _⟩ := (mem_emit ha hb hp hne y).2.2.1 hy
      have h3 := h2.2.1
      rw [h1.1] at h3; cases h3
theorem emit_path {a b : List Ent} {F G : Forest} (ha : Lists a F) (hb : Lists b G) {p : List UInt8} (hp : p ∈ [] :: mergeL a b) {c : Ent} (hc : c ∈ emitL a b p) : c.path = p := by
  rcases List.mem_cons.1 hp with rfl | hp
  · obtain ⟨_, rfl⟩ := (mem_emit_root ha hb c).1 hc; rfl
  · obtain ⟨h1, h2⟩ := merge_paths ha hb hp
    rcases (mem_emitL ha hb h1 h2 c).1 hc with ⟨x, hx, rfl⟩ | ⟨h, rfl⟩ | ⟨h, rfl⟩ <;> rfl
theorem diff_pair {a b : List Ent} {F G : Forest} (ha : Lists a F) (hb : Lists b G) : (diffL a b).Pairwise NextE := by
  have hr : ([] :: mergeL a b).Pairwise fun p q => orderL (partsB p) (partsB q) < 0 := by
    refine List.pairwise_cons.2 ⟨fun q hq => ?_, List.pairwise_map.1 (mergeL_rise a b ha.rise hb.rise)⟩
    have := orderL_longer [] (partsB q) (partsB_ne (merge_paths ha hb hq).2)
    simpa [partsB] using this
  unfold diffL
  refine List.pairwise_flatMap.2 ⟨fun p hp => ?_, hr.imp_of_mem fun {p q} hp hq hlt x hx y hy => .inl ?_⟩
  · rcases List.mem_cons.1 hp with rfl | hp
    · rw [emit_root ha hb]; split <;> simp
    · obtain ⟨h1, h2⟩ := merge_paths ha hb hp
      exact emit_pair ha hb h1 h2
  · rw [emit_path ha hb hp hx, emit_path ha hb hq hy]; exact hlt
theorem diff_up {a b : List Ent} {F G : Forest} (ha : Lists a F) (hb : Lists b G) (hG : IsTree G) {c : Ent} (hc : c ∈ diffL a b) {r : Pth} (hr : r <+: partsB c.path) (hne : r ≠ partsB c.path) : isDirF G r = true := by
  obtain ⟨hp, h | h | ⟨hn, h, _⟩⟩ := mem_diff ha hb hc
  · obtain ⟨_, x, hx, _⟩ := h
    exact dir_prefix hG hr hne (by rw [hx.1]; rfl)
  · exact dir_prefix hG hr hne (dirF_some h.1.2.1)
  · obtain ⟨e1, _⟩ := parts_last hp hn
    rw [e1] at hr hne
    rcases prefix_snoc hr with h1 | h1
    · by_cases e : r = (partsB c.path).dropLast
      · rw [e]; exact h.2.2.1
      · exact dir_prefix hG h1 e (dirF_some h.2.2.1)
    · exact absurd h1 hne
theorem good_in {b : List Ent} {G : Forest} (hb : Lists b G) {c : Ent} (hne : c.path ≠ []) (h : G (partsB c.path) = some (ndOf c)) : goodB c = true := by
  rcases hb.only _ _ h with e | ⟨e, he, h1, h2⟩
  · exact absurd e (partsB_ne hne)
  · rw [← ent_eq h1 h2]; exact (hb.each e he).2.2
/-- what makes one of the other may be -/
theorem diff_barred {a b : List Ent} {F G : Forest} (ha : Lists a F) (hb : Lists b G) (hG : IsTree G) (hlen : (diffL a b).length ≤ 80) : First (barR (diffL a b)) (diffL a b).length (-1) := by
  have hpw := diff_pair ha hb
  refine .inr ⟨rfl, fun i hi => ?_⟩
  have hget : (diffL a b)[i]? = some (diffL a b)[i] := List.getElem?_eq_getElem hi
  have hmem := List.getElem_mem hi
  obtain ⟨hp, hk⟩ := mem_diff ha hb hmem
  refine barR_ok hget ?_ ?_ ?_
  · have h80 : decide (i = 80) = false := decide_eq_false (by omega)
    unfold shapeR
    rw [h80, hp]
    rcases hk with ⟨hne, x, hx, hc⟩ | ⟨_, hc⟩ | ⟨hne, _, hc⟩
    · have hg : goodB (diffL a b)[i] = true := good_in hb hne (by rw [hx.1]; congr 1; rw [hc]; rfl)
      have : (diffL a b)[i].path.isEmpty = false := List.isEmpty_eq_false_iff.2 hne
      rw [hg, this]; rfl
    · rw [hc]; simp [markB]
    · have : (diffL a b)[i].path.isEmpty = false := List.isEmpty_eq_false_iff.2 hne
      rw [hc]
      simp only [this]; simp [markB]
  · by_cases h0 : i = 0
    · exact .inl h0
    · refine .inr ⟨(diffL a b)[i - 1], List.getElem?_eq_getElem (by omega), ?_⟩
      have h := List.pairwise_iff_getElem.1 hpw (i - 1) i (by omega) hi (by omega)
      unfold nextR
      rcases h with h | ⟨h1, h2, h3⟩
      · rw [decide_eq_false (by omega)]; rfl
      · rw [h1, orderL_refl, h2, h3]; decide
  · refine shutR_none fun q x hq => ?_
    by_cases h1 : x.kind = 1
    · exact .inr (.inl h1)
    by_cases h5 : x.kind = 5
    · exact .inr (.inr h5)
    left
    have hx : x ∈ diffL a b := List.mem_of_mem_take (List.mem_of_getElem? hq)
    cases hbl : belowB (diffL a b)[i].path x.path with
    | false => rfl
    | true =>
      obtain ⟨e1, e2⟩ := belowB_iff.1 hbl
      have hd := diff_up ha hb hG hmem e1 (fun e => e2 e.symm)
      obtain ⟨z, hz, hzk⟩ := isDirF_iff.1 hd
      obtain ⟨_, ⟨_, y, hy, hc⟩ | ⟨_, hc⟩ | ⟨_, hg, _⟩⟩ := mem_diff ha hb hx
      · rw [hy.1] at hz
        obtain rfl := Option.some.inj hz
        rw [hc] at h1; exact absurd hzk h1
      · rw [hc] at h5; exact absurd rfl h5
      · rw [hg.2.1] at hz; cases hz
theorem emit_len2 {a b : List Ent} {F G : Forest} (ha : Lists a F) (hb : Lists b G) {p : List UInt8} (hp : p ∈ mergeL a b) : (emitL a b p).length ≤ 2 := by
  obtain ⟨h1, h2⟩ := merge_paths ha hb hp
  have g1 : (emit1 a b p).length ≤ 1 := by unfold emit1; split <;> (try split) <;> simp
  have g2 : (emit2 a b p).length ≤ 1 := by unfold emit2; split <;> simp
  have g3 : (emit3 a b p).length ≤ 1 := by unfold emit3; split <;> simp
  have hx : emit2 a b p = [] ∨ emit3 a b p = [] := by
    cases e2 : emit2 a b p with
    | nil => exact .inl rfl
    | cons x r =>
      cases e3 : emit3 a b p with
      | nil => exact .inr rfl
      | cons y s =>
        have k2 := ((mem_emit ha hb h1 h2 x).2.1.1 (by rw [e2]; simp)).1
        have k3 := ((mem_emit ha hb h1 h2 y).2.2.1 (by rw [e3]; simp)).1
        have := dirF_some k2.2.1
        rw [k3.2.1] at this; cases this
  unfold emitL
  simp only [List.length_append]
  rcases hx with e | e <;> rw [e] <;> simp <;> omega
theorem diff_len2 {a b : List Ent} {F G : Forest} (ha : Lists a F) (hb : Lists b G) : (diffL a b).length ≤ 2 * (a.length + b.length) + 1 := by
  have : ∀ l : List (List UInt8), (∀ p ∈ l, p ∈ mergeL a b) → (l.flatMap (emitL a b)).length ≤ 2 * l.length := by
    intro l
    induction l with
    | nil => simp
    | cons p r ih =>
      intro h
      rw [List.flatMap_cons, List.length_append, List.length_cons]
      have := emit_len2 ha hb (h p (by simp)); have := ih (fun q hq => h q (by simp [hq])); omega
  have h := this (mergeL a b) (fun _ h => h)
  have := merge_len a b
  have h0 : (emitL a b []).length ≤ 1 := by rw [emit_root ha hb]; split <;> simp
  unfold diffL
  rw [List.flatMap_cons, List.length_append]; omega
end Go.Proofs.YtafokdidpbainaaGreatDoor
namespace Go.Proofs.YtafokdidpbainaaGreatDoor

def cutOne (F : Forest) (c : Ent) : Forest := if c.kind = 5 then clearF F (partsB c.path) else if c.kind = 4 then cutF F (partsB c.path) else F
def hits (c : Ent) (q : Pth) : Prop := (c.kind = 5 ∧ partsB c.path <+: q ∧ q ≠ partsB c.path) ∨ (c.kind = 4 ∧ partsB c.path <+: q)
theorem cut_hit {F : Forest} {c : Ent} {q : Pth} (h : hits c q) : cutOne F c q = none := by
  unfold cutOne
  rcases h with ⟨h1, h2, h3⟩ | ⟨h1, h2⟩
  · rw [if_pos h1]; unfold clearF; rw [if_pos ⟨h2, h3⟩]
  · rw [if_neg (by rw [h1]; decide), if_pos h1]; exact cutF_on h2
theorem cut_off {F : Forest} {c : Ent} {q : Pth} (h : ¬ hits c q) : cutOne F c q = F q := by
  unfold cutOne
  by_cases h5 : c.kind = 5
  · rw [if_pos h5]; unfold clearF; rw [if_neg (fun h2 => h (.inl ⟨h5, h2⟩))]
  · rw [if_neg h5]
    by_cases h4 : c.kind = 4
    · rw [if_pos h4]; exact cutF_off (fun h2 => h (.inr ⟨h4, h2⟩))
    · rw [if_neg h4]
theorem cut_tree {F : Forest} (h : IsTree F) {c : Ent} (hc : c.kind = 4 → c.path ≠ []) : IsTree (cutOne F c) := by
  unfold cutOne
  split
  · exact clearF_tree h _
  · split
    · rename_i h4; exact cutF_tree h _ (partsB_ne (hc h4))
    · exact h
theorem cuts_lists : ∀ (l t : List Ent) (F : Forest), Lists t F → IsTree F → (∀ c ∈ l, c.kind = 4 → c.path ≠ []) → Lists (l.foldl cutL t) (l.foldl cutOne F) ∧ IsTree (l.foldl cutOne F) := by
  intro l
  induction l with
  | nil => intro t F h hT _; exact ⟨h, hT⟩
  | cons c r ih =>
    intro t F h hT hc
    have h4 := hc c (by simp)
    refine ih (cutL t c) (cutOne F c) ?_ (cut_tree hT h4) (fun x hx => hc x (by simp [hx]))
    unfold cutL cutOne
    split
    · exact h.clear c.path
    · split
      · rename_i h5 h6; exact h.cut c.path (h4 h6)
      · exact h
theorem cuts_off : ∀ (l : List Ent) (F : Forest) (q : Pth), (∀ c ∈ l, ¬ hits c q) → l.foldl cutOne F q = F q := by
  intro l
  induction l with
  | nil => intro F q _; rfl
  | cons c r ih => intro F q h; rw [List.foldl_cons, ih _ q (fun x hx => h x (by simp [hx])), cut_off (h c (by simp))]
theorem cuts_none : ∀ (l : List Ent) (F : Forest) (q : Pth), F q = none → l.foldl cutOne F q = none := by
  intro l
  induction l with
  | nil => intro F q h; exact h
  | cons c r ih =>
    intro F q h
    refine ih _ q ?_
    by_cases hh : hits c q
    · exact cut_hit hh
    · rw [cut_off hh, h]
theorem cuts_hit : ∀ (l : List Ent) (F : Forest) (q : Pth), (∃ c ∈ l, hits c q) → l.foldl cutOne F q = none := by
  intro l
  induction l with
  | nil => rintro F q ⟨c, h, _⟩; simp at h
  | cons c r ih =>
    rintro F q ⟨x, hx, hh⟩
    rcases List.mem_cons.1 hx with rfl | hx
    · exact cuts_none r _ q (cut_hit hh)
    · exact ih _ q ⟨x, hx, hh⟩
theorem cutAll_ok (a : List Ent) : ∀ (l : List Ent) (i : Nat) (t : List Ent), (∀ c ∈ l, missB a c = false) → cutAll a l i t = .ok (l.foldl cutL t) := by
  intro l
  induction l with
  | nil => intro i t _; rfl
  | cons c r ih => intro i t h; rw [cutAll, if_neg (by rw [h c (by simp)]; decide), ih _ _ (fun x hx => h x (by simp [hx]))]; rfl

def isPut (c : Ent) : Prop := c.kind ≠ 4 ∧ c.kind ≠ 5
/-- what the puts of a list make of a tree, as far as they have been done -/
structure PutTo (D : List Ent) (G H K : Forest) : Prop where
  on : ∀ c ∈ D, isPut c → K (partsB c.path) = G (partsB c.path)
  bad : ∀ q, (∀ c ∈ D, isPut c → partsB c.path ≠ q) → (∃ c ∈ D, isPut c ∧ partsB c.path <+: q ∧ isDirF G (partsB c.path) = false) → K q = none
  off : ∀ q, (∀ c ∈ D, isPut c → partsB c.path ≠ q) → (∀ c ∈ D, isPut c → partsB c.path <+: q → isDirF G (partsB c.path) = true) → K q = H q
/-- the longest directory of the second that a path lies in -/
theorem last_in {G : Forest} (h0 : (G []).isSome = true) : ∀ n (q : Pth), q.length = n → G q = none → ∃ r k s, q = r ++ k :: s ∧ (G r).isSome = true ∧ G (r ++ [k]) = none := by
  intro n
  induction n with
  | zero => intro q hq h; rw [List.eq_nil_of_length_eq_zero hq] at h; rw [h] at h0; cases h0
  | succ n ih =>
    intro q hq h
    rcases nil_or_snoc q with rfl | ⟨p, e, rfl⟩
    · simp at hq
    · cases hp : G p with
      | some x => exact ⟨p, e, [], rfl, by rw [hp]; rfl, h⟩
      | none =>
        obtain ⟨r, k, s, h1, h2, h3⟩ := ih p (by simpa using hq) hp
        exact ⟨r, k, s ++ [e], by rw [h1]; simp, h2, h3⟩
section
variable {a b : List Ent} {F G : Forest}
theorem diff_kind (ha : Lists a F) (hb : Lists b G) {c : Ent} (hc : c ∈ diffL a b) : (isPut c → c.path ≠ [] ∧ PutAt F G (partsB c.path) (ndOf c)) ∧ (c.kind = 5 → ClearAt F G (partsB c.path)) ∧ (c.kind = 4 → c.path ≠ [] ∧ GoneAt F G (partsB c.path)) := by
  obtain ⟨_, ⟨hne, x, hx, e⟩ | ⟨h, e⟩ | ⟨hne, h, e⟩⟩ := mem_diff ha hb hc
  · have hn : ndOf c = x := by rw [e]; rfl
    have hk : x.kind ≠ 4 ∧ x.kind ≠ 5 := by
      have := goodB_kind (good_in hb hne (c := c) (by rw [hn]; exact hx.1))
      rw [e] at this; simp only at this; omega
    have hck : c.kind = x.kind := by rw [e]
    exact ⟨fun _ => ⟨hne, hn ▸ hx⟩, fun h => absurd (hck.symm.trans h) hk.2, fun h => absurd (hck.symm.trans h) hk.1⟩
  · have hck : c.kind = 5 := by rw [e]
    exact ⟨fun h => absurd hck h.2, fun _ => h, fun h => by rw [hck] at h; exact absurd h (by decide)⟩
  · have hck : c.kind = 4 := by rw [e]
    exact ⟨fun h => absurd hck h.1, fun h => by rw [hck] at h; exact absurd h (by decide), fun _ => ⟨hne, h⟩⟩
theorem put_kind (ha : Lists a F) (hb : Lists b G) {c : Ent} (hc : c ∈ diffL a b) {x : Nd} (hx : G (partsB c.path) = some x) (hn : ndOf c = x) (hne : c.path ≠ []) : isPut c := by
  have := goodB_kind (good_in hb hne (c := c) (by rw [hn]; exact hx))
  unfold isPut; omega
/-- what stands in the second is not taken away -/
theorem cuts_keep (ha : Lists a F) (hb : Lists b G) (hF : IsTree F) (hG : IsTree G) {q : Pth} (hq : (G q).isSome = true) : (diffL a b).foldl cutOne F q = F q := by
  cases hFq : F q with
  | none => exact cuts_none _ _ _ hFq
  | some y =>
  rw [← hFq]
  refine cuts_off _ _ _ fun c hc hh => ?_
  obtain ⟨_, h5, h4⟩ := diff_kind ha hb hc
  rcases hh with ⟨hk, h1, h2⟩ | ⟨hk, h1⟩
  · obtain ⟨hd, _, hl⟩ := h5 hk
    obtain ⟨s, rfl⟩ := h1
    cases s with
    | nil => exact h2 (List.append_nil _)
    | cons k s =>
      have e1 : partsB c.path ++ k :: s = partsB c.path ++ [k] ++ s := by simp
      have hFk : (F (partsB c.path ++ [k])).isSome = true := by
        cases hf : F (partsB c.path ++ [k]) with
        | some _ => rfl
        | none => rw [e1, hF.pre _ s hf] at hFq; cases hFq
      unfold lostB at hl
      simp only [Bool.and_eq_true, List.all_eq_true] at hl
      have h3 := hl.1 k (((ha.deep hF).mem_names _ _).2 hFk)
      have hgk : G (partsB c.path ++ [k]) = none := by simpa using h3
      rw [e1, hG.pre _ s hgk] at hq; cases hq
  · obtain ⟨_, hg⟩ := h4 hk
    obtain ⟨s, rfl⟩ := h1
    rw [hG.pre _ s hg.2.1] at hq; cases hq
/-- what has gone of the second and is not put over is taken away -/
theorem cuts_gone (ha : Lists a F) (hb : Lists b G) (hF : IsTree F) (hG : IsTree G) {q : Pth} (hq : G q = none) (hoff : ∀ c ∈ diffL a b, isPut c → partsB c.path <+: q → isDirF G (partsB c.path) = true) : (diffL a b).foldl cutOne F q = none := by
  cases hFq : F q with
  | none => exact cuts_none _ _ _ hFq
  | some y =>
  obtain ⟨r, k, s, rfl, hr, hk⟩ := last_in (G := G) (by rw [hb.root]; rfl) _ q rfl hq
  have e1 : r ++ k :: s = r ++ [k] ++ s := by simp
  have hFk : (F (r ++ [k])).isSome = true := by
    cases hf : F (r ++ [k]) with
    | some _ => rfl
    | none => rw [e1, hF.pre _ s hf] at hFq; cases hFq
  obtain ⟨x, hx, hxk⟩ := hF.up r k hFk
  have hFd : isDirF F r = true := isDirF_iff.2 ⟨x, hx, hxk⟩
  cases hGd : isDirF G r with
  | true =>
    cases hl : lostB F G r with
    | true =>
      obtain ⟨c, hc, h1, h2⟩ := clear_in ha hb (q := r) ⟨hFd, hGd, hl⟩
      exact cuts_hit _ _ _ ⟨c, hc, .inl ⟨h2, by rw [h1]; exact ⟨_, rfl⟩, by rw [h1]; intro e; have := congrArg List.length e; simp at this⟩⟩
    | false =>
      obtain ⟨c, hc, h1, h2⟩ := gone_in ha hb (q := r ++ [k]) (by simp) ⟨hFk, hk, by rw [List.dropLast_concat]; exact hGd, by rw [List.dropLast_concat, hl, Bool.and_false]⟩
      exact cuts_hit _ _ _ ⟨c, hc, .inr ⟨h2, by rw [h1]; exact ⟨s, by simp⟩⟩⟩
  | false =>
    obtain ⟨y, hy⟩ := Option.isSome_iff_exists.1 hr
    have hr0 : r ≠ [] := by
      rintro rfl
      obtain ⟨z, hz, hzk⟩ := hG.root
      rw [isDirF_iff.2 ⟨z, hz, hzk⟩] at hGd; cases hGd
    obtain ⟨c, hc, h1, h2⟩ := put_in ha hb hr0 (x := y) ⟨hy, fun e => by
      rw [hx] at e
      obtain rfl := Option.some.inj e
      rw [isDirF_iff.2 ⟨x, hy, hxk⟩] at hGd; cases hGd⟩
    have hne : c.path ≠ [] := fun e => hr0 (by rw [← h1, e]; rfl)
    have := hoff c hc (put_kind ha hb hc (by rw [h1]; exact hy) h2 hne) (by rw [h1]; exact ⟨_, rfl⟩)
    rw [h1, hGd] at this; cases this
theorem puts_end (ha : Lists a F) (hb : Lists b G) (hF : IsTree F) (hG : IsTree G) {K : Forest} (h : PutTo (diffL a b) G ((diffL a b).foldl cutOne F) K) : K = G := by
  funext q
  by_cases h1 : ∃ c ∈ diffL a b, isPut c ∧ partsB c.path = q
  · obtain ⟨c, hc, hp, rfl⟩ := h1
    exact h.on c hc hp
  · have h1' : ∀ c ∈ diffL a b, isPut c → partsB c.path ≠ q := fun c hc hp e => h1 ⟨c, hc, hp, e⟩
    cases hGq : G q with
    | some x =>
      rw [h.off q h1' fun c hc hp hpre => dir_prefix hG hpre (h1' c hc hp) (by rw [hGq]; rfl), cuts_keep ha hb hF hG (by rw [hGq]; rfl)]
      by_cases hq : q = []
      · subst hq
        rw [ha.root, ← hGq, hb.root]
      · by_cases hFx : F q = some x
        · exact hFx
        · obtain ⟨c, hc, h2, h3⟩ := put_in ha hb hq ⟨hGq, hFx⟩
          have hne : c.path ≠ [] := fun e => hq (by rw [← h2, e]; rfl)
          exact absurd h2 (h1' c hc (put_kind ha hb hc (by rw [h2]; exact hGq) h3 hne))
    | none =>
      by_cases hbad : ∃ c ∈ diffL a b, isPut c ∧ partsB c.path <+: q ∧ isDirF G (partsB c.path) = false
      · exact h.bad q h1' hbad
      · have hoff : ∀ c ∈ diffL a b, isPut c → partsB c.path <+: q → isDirF G (partsB c.path) = true := by
          intro c hc hp hpre
          cases hd : isDirF G (partsB c.path) with
          | true => rfl
          | false => exact absurd ⟨c, hc, hp, hpre, hd⟩ hbad
        rw [h.off q h1' hoff, cuts_gone ha hb hF hG hGq hoff]
theorem puts_run (ha : Lists a F) (hb : Lists b G) (hF : IsTree F) (hG : IsTree G) : ∀ (D2 D1 t : List Ent) (K : Forest) (i : Nat), D1 ++ D2 = diffL a b → Lists t K → PutTo D1 G ((diffL a b).foldl cutOne F) K → ∃ t' K', putAll D2 i t = .ok t' ∧ Lists t' K' ∧ PutTo (diffL a b) G ((diffL a b).foldl cutOne F) K' := by
  have hpw := diff_pair ha hb
  have hHT : IsTree ((diffL a b).foldl cutOne F) := (cuts_lists _ a F ha hF fun c hc h4 => ((diff_kind ha hb hc).2.2 h4).1).2
  intro D2
  induction D2 with
  | nil => intro D1 t K i hD ht hK; rw [List.append_nil] at hD; subst hD; exact ⟨t, K, rfl, ht, hK⟩
  | cons c r ih =>
    intro D1 t K i hD ht hK
    have hc : c ∈ diffL a b := by rw [← hD]; simp
    have hD' : (D1 ++ [c]) ++ r = diffL a b := by rw [← hD]; simp
    have hin : ∀ x ∈ D1, x ∈ diffL a b := fun x hx => by rw [← hD]; simp [hx]
    by_cases hp : isPut c
    · obtain ⟨hne, hpa⟩ := (diff_kind ha hb hc).1 hp
      have hPne := partsB_ne hne
      have hpath := (mem_diff ha hb hc).1
      have hgood := good_in hb hne hpa.1
      have hGs : (G (partsB c.path)).isSome = true := by rw [hpa.1]; rfl
      have hpw' := hpw
      rw [← hD] at hpw'
      obtain ⟨_, hp2, hp12⟩ := List.pairwise_append.1 hpw'
      have hlt1 : ∀ x ∈ D1, orderL (partsB x.path) (partsB c.path) < 0 := by
        intro x hx
        rcases hp12 x hx c (by simp) with h | ⟨_, _, h5⟩
        · exact h
        · exact absurd h5 hp.2
      have hge2 : ∀ x ∈ c :: r, ¬ orderL (partsB x.path) (partsB c.path) < 0 := by
        intro x hx hlt
        rcases List.mem_cons.1 hx with rfl | hx
        · rw [orderL_refl] at hlt; omega
        · rcases (List.pairwise_cons.1 hp2).1 x hx with h | ⟨h, _, _⟩
          · have := orderL_anti h; omega
          · rw [← h, orderL_refl] at hlt; omega
      have hearly : ∀ x ∈ diffL a b, orderL (partsB x.path) (partsB c.path) < 0 → x ∈ D1 := by
        intro x hx hlt
        rw [← hD] at hx
        rcases List.mem_append.1 hx with h | h
        · exact h
        · exact absurd hlt (hge2 x h)
      -- what of the second lies on the way to c stands already
      have hway : ∀ q, (G q).isSome = true → (∀ x ∈ D1, isPut x → partsB x.path ≠ q) → K q = ((diffL a b).foldl cutOne F) q := by
        intro q hq h1
        exact hK.off q h1 fun x hx hpx hpre => dir_prefix hG hpre (h1 x hx hpx) hq
      obtain ⟨epath, _⟩ := parts_last hpath hne
      have hrd : isDirF G (partsB c.path).dropLast = true := by
        refine dir_prefix hG (q := partsB c.path) ⟨[(upB c.path).2], epath.symm⟩ (fun e => ?_) hGs
        have := congrArg List.length e
        rw [List.length_dropLast] at this
        have := List.length_pos_iff.2 hPne; omega
      have hKr : K (partsB c.path).dropLast = G (partsB c.path).dropLast := by
        by_cases h1 : ∃ x ∈ D1, isPut x ∧ partsB x.path = (partsB c.path).dropLast
        · obtain ⟨x, hx, hpx, e⟩ := h1
          rw [← e]; exact hK.on x hx hpx
        · have h1' : ∀ x ∈ D1, isPut x → partsB x.path ≠ (partsB c.path).dropLast := fun x hx hpx e => h1 ⟨x, hx, hpx, e⟩
          rw [hway _ (dirF_some hrd) h1', cuts_keep ha hb hF hG (dirF_some hrd)]
          by_cases hr0 : (partsB c.path).dropLast = []
          · rw [hr0, ha.root, hb.root]
          · obtain ⟨y, hy, _⟩ := isDirF_iff.1 hrd
            by_cases hFy : F (partsB c.path).dropLast = some y
            · rw [hFy, hy]
            · obtain ⟨x, hx, e1, e2⟩ := put_in ha hb hr0 ⟨hy, hFy⟩
              have hxne : x.path ≠ [] := fun e => hr0 (by rw [← e1, e]; rfl)
              have hpx := put_kind ha hb hx (by rw [e1]; exact hy) e2 hxne
              have hlt : orderL (partsB x.path) (partsB c.path) < 0 := by
                rw [e1]
                conv => lhs; arg 2; rw [epath]
                exact orderL_longer _ _ (by simp)
              exact absurd e1 (h1' x (hearly x hx hlt) hpx)
      have hkind : kindL t (upB c.path).1 = 1 := by
        have := kind_same ht (upB c.path).1 (Classical.em _)
        rw [upB_parts hpath] at this
        have h2 : isDirF K (partsB c.path).dropLast = true := by
          unfold isDirF at hrd ⊢; rw [hKr]; exact hrd
        rw [h2] at this; simpa using this
      have hput := ht.put c hpath hne hgood
      refine (ih (D1 ++ [c]) (putL t c) _ (i + 1) hD' hput ?_).imp fun t' h => ?_
      · have hnot : ∀ x ∈ D1, ¬ partsB c.path <+: partsB x.path := by
          intro x hx hpre
          have h := hlt1 x hx
          obtain ⟨s, hs⟩ := hpre
          by_cases hs0 : s = []
          · rw [← hs, hs0, List.append_nil, orderL_refl] at h; omega
          · have := orderL_anti h
            have h3 := orderL_longer (partsB c.path) s hs0
            rw [hs] at h3; omega
        refine ⟨fun x hx hpx => ?_, fun q h1 h2 => ?_, fun q h1 h2 => ?_⟩
        · rcases List.mem_append.1 hx with hx | hx
          · rw [putF_off (hnot x hx)]; exact hK.on x hx hpx
          · rw [List.mem_singleton.1 hx, putF_same]; exact hpa.1.symm
        · obtain ⟨x, hx, hpx, hpre, hbad⟩ := h2
          have hqc : q ≠ partsB c.path := fun e => h1 c (by simp) hp e.symm
          rcases List.mem_append.1 hx with hx | hx
          · have hKq := hK.bad q (fun y hy => h1 y (by simp [hy])) ⟨x, hx, hpx, hpre, hbad⟩
            by_cases hcp : partsB c.path <+: q
            · rw [putF_under hcp hqc]; split
              · exact hKq
              · rfl
            · rw [putF_off hcp]; exact hKq
          · obtain rfl := List.mem_singleton.1 hx
            rw [putF_under hpre hqc, if_neg]
            rintro ⟨hk, _⟩
            rw [isDirF_iff.2 ⟨_, hpa.1, hk⟩] at hbad; cases hbad
        · have hqc : q ≠ partsB c.path := fun e => h1 c (by simp) hp e.symm
          have hKq := hK.off q (fun y hy => h1 y (by simp [hy])) (fun y hy => h2 y (by simp [hy]))
          by_cases hcp : partsB c.path <+: q
          · have hdc := h2 c (by simp) hp hcp
            obtain ⟨z, hz, hzk⟩ := isDirF_iff.1 hdc
            rw [hpa.1] at hz
            obtain rfl := Option.some.inj hz
            rw [putF_under hcp hqc]
            cases hKd : isDirF K (partsB c.path) with
            | true => rw [if_pos ⟨hzk, rfl⟩]; exact hKq
            | false =>
              rw [if_neg (fun h => by cases h.2)]
              have hKp : K (partsB c.path) = ((diffL a b).foldl cutOne F) (partsB c.path) := hway _ hGs fun x hx hpx e => by
                have := hlt1 x hx
                rw [e, orderL_refl] at this; omega
              have hHd : isDirF ((diffL a b).foldl cutOne F) (partsB c.path) = false := by
                unfold isDirF at hKd ⊢; rw [← hKp]; exact hKd
              symm
              cases hHq : ((diffL a b).foldl cutOne F) q with
              | none => rfl
              | some y =>
                have := dir_prefix hHT hcp (fun e => hqc e.symm) (by rw [hHq]; rfl)
                rw [hHd] at this; cases this
          · rw [putF_off hcp]; exact hKq
      · obtain ⟨K', h1, h2⟩ := h
        refine ⟨K', ?_, h2⟩
        rw [putAll, if_neg (fun h => h.elim hp.1 hp.2), if_pos hkind]; exact h1
    · have h45 : c.kind = 4 ∨ c.kind = 5 := by
        unfold isPut at hp; omega
      have hK' : PutTo (D1 ++ [c]) G ((diffL a b).foldl cutOne F) K := by
        refine ⟨fun x hx hpx => ?_, fun q h1 h2 => ?_, fun q h1 h2 => ?_⟩
        · rcases List.mem_append.1 hx with hx | hx
          · exact hK.on x hx hpx
          · rw [List.mem_singleton.1 hx] at hpx; exact absurd hpx hp
        · obtain ⟨x, hx, hpx, h3⟩ := h2
          rcases List.mem_append.1 hx with hx | hx
          · exact hK.bad q (fun y hy => h1 y (by simp [hy])) ⟨x, hx, hpx, h3⟩
          · rw [List.mem_singleton.1 hx] at hpx; exact absurd hpx hp
        · exact hK.off q (fun y hy => h1 y (by simp [hy])) (fun y hy => h2 y (by simp [hy]))
      obtain ⟨t', K', h1, h2⟩ := ih (D1 ++ [c]) t K (i + 1) hD' ht hK'
      exact ⟨t', K', by rw [putAll, if_pos h45]; exact h1, h2⟩
/-- what makes b of a makes b of a -/
theorem diff_done (ha : Lists a F) (hb : Lists b G) (hF : IsTree F) (hG : IsTree G) (hlen : b.length ≤ 40) : patchL a (diffL a b) = (b, 0, -1) := by
  have hmiss : ∀ c ∈ diffL a b, missB a c = false := by
    intro c hc
    obtain ⟨_, h5, h4⟩ := diff_kind ha hb hc
    by_cases k5 : c.kind = 5
    · obtain ⟨hd, _⟩ := h5 k5
      have := kind_same ha c.path (Classical.em _)
      rw [hd] at this
      rw [missB_5 k5, this]; rfl
    · by_cases k4 : c.kind = 4
      · obtain ⟨_, hg⟩ := h4 k4
        rw [missB_4 k4, decide_eq_false_iff_not, kindF_same ha c.path]
        obtain ⟨x, hx⟩ := Option.isSome_iff_exists.1 hg.1
        unfold kindF
        rw [hx]; exact ha.kinds hx
      · exact missB_no k4 k5
  obtain ⟨hL0, _⟩ := cuts_lists (diffL a b) a F ha hF fun c hc h4 => ((diff_kind ha hb hc).2.2 h4).1
  obtain ⟨t, K, h1, h2, h3⟩ := puts_run ha hb hF hG (diffL a b) [] _ _ 0 rfl hL0 ⟨fun c hc => by simp at hc, fun q _ h => by obtain ⟨c, hc, _⟩ := h; simp at hc, fun q _ _ => rfl⟩
  rw [puts_end ha hb hF hG h3] at h2
  obtain rfl := h2.uniqL hb
  exact patchL_ok (cutAll_ok a _ 0 a hmiss) h1 (by omega)
/-- nothing makes a of a -/
theorem diff_self (ha : Lists a F) : diffL a a = [] := by
  unfold diffL
  rw [List.flatMap_eq_nil_iff]
  intro p hp
  have hcl : clearedL a a p = false := by
    unfold clearedL
    cases hch : childrenL a p with
    | nil => simp
    | cons c r =>
      have hc : c ∈ a := (List.mem_filter.1 (show c ∈ childrenL a p by rw [hch]; simp)).1
      have : decide (kindL a c.path = 0) = false := by
        rw [decide_eq_false_iff_not, kindF_same ha, kindF, ha.mem c hc]
        exact ha.kinds (ha.mem c hc)
      simp [this]
  unfold emitL emit1 emit2 emit3
  rw [hcl]
  cases findL a p <;> simp
end
end Go.Proofs.YtafokdidpbainaaGreatDoor
