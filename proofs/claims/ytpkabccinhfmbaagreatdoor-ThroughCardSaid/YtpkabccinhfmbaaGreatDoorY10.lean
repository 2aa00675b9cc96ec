/-
  Plain words: a list of entries with something taken out, with an entry put: the list of the tree so changed. No program in sight.
  Plain words: what makes one tree of another makes it, and may be. No program in sight.
-/
import Derived.Test.YtpkabccinhfmbaaGreatDoorY01
import Derived.Test.YtpkabccinhfmbaaGreatDoorY08
import Derived.Test.YtpkabccinhfmbaaGreatDoorY09
set_option linter.unusedVariables false
set_option linter.unusedSimpArgs false
namespace Go.Proofs.YtpkabccinhfmbaaGreatDoor

theorem belowB_iff {p d : List UInt8} : belowB p d = true ↔ partsB d <+: partsB p ∧ partsB p ≠ partsB d := by
  unfold belowB
  by_cases hd : d = []
  · subst hd
    rw [if_pos rfl, show partsB ([] : List UInt8) = [] from rfl]
    cases p with
    | nil => simp [partsB]
    | cons x r => exact ⟨fun _ => ⟨List.nil_prefix, partsB_ne (by simp)⟩, fun _ => rfl⟩
  · rw [if_neg hd]
    constructor
    · intro h
      refine ⟨below_parts hd h, fun e => ?_⟩
      have := parts_same e
      subst this
      have := (List.isPrefixOf_iff_prefix.1 h).length_le
      simp at this; omega
    · rintro ⟨h1, h2⟩
      exact parts_below hd h1 (fun e => h2 e.symm)
theorem Lists.filter {l : List Ent} {F G : Forest} (h : Lists l F) (keep : Ent → Bool) (h1 : ∀ e ∈ l, keep e = true → G (partsB e.path) = F (partsB e.path)) (h2 : ∀ e ∈ l, keep e = false → G (partsB e.path) = none) (h3 : ∀ q z, G q = some z → F q = some z) (h4 : G [] = F []) : Lists (l.filter keep) G := by
  refine ⟨fun e he => h.each e (List.mem_filter.1 he).1, fun e he => ?_, fun p x hx => ?_, h4.trans h.root, h.rise.sublist List.filter_sublist⟩
  · obtain ⟨m1, m2⟩ := List.mem_filter.1 he
    rw [h1 e m1 m2]; exact h.mem e m1
  · rcases h.only p x (h3 p x hx) with e1 | ⟨e, he, rfl, hn⟩
    · exact .inl e1
    · refine .inr ⟨e, List.mem_filter.2 ⟨he, ?_⟩, rfl, hn⟩
      cases hk : keep e with
      | true => rfl
      | false => rw [h2 e he hk] at hx; cases hx
theorem keepW_false {p : List UInt8} {x : Ent} : keepW p false x = true ↔ ¬ (partsB p <+: partsB x.path ∧ partsB x.path ≠ partsB p) := by
  unfold keepW
  rw [← belowB_iff]
  cases belowB x.path p <;> simp
theorem keepW_true {p : List UInt8} {x : Ent} : keepW p true x = true ↔ ¬ partsB p <+: partsB x.path := by
  unfold keepW
  by_cases hx : x.path = p
  · rw [hx]; simp
  · have hne : partsB x.path ≠ partsB p := fun e => hx (parts_same e)
    have := @belowB_iff x.path p
    cases hb : belowB x.path p with
    | true => rw [hb] at this; have := (this.1 rfl).1; simp [this]
    | false =>
      rw [hb] at this
      have h2 : ¬ partsB p <+: partsB x.path := fun h => by have := this.2 ⟨h, hne⟩; cases this
      simp [hx, h2]
theorem Lists.clear {l : List Ent} {F : Forest} (h : Lists l F) (p : List UInt8) : Lists (withoutL l p false) (clearF F (partsB p)) := by
  unfold withoutL
  refine h.filter _ (fun e _ hk => ?_) (fun e _ hk => ?_) (fun q z hz => (clearF_sub hz).1) ?_
  · unfold clearF; rw [if_neg (keepW_false.1 hk)]
  · unfold clearF
    rw [if_pos]
    exact Classical.not_not.1 fun hn => by rw [keepW_false.2 hn] at hk; cases hk
  · unfold clearF; rw [if_neg]; rintro ⟨h1, h2⟩; exact h2 (List.prefix_nil.1 h1).symm
theorem Lists.cut {l : List Ent} {F : Forest} (h : Lists l F) (p : List UInt8) (hp : p ≠ []) : Lists (withoutL l p true) (cutF F (partsB p)) := by
  unfold withoutL
  refine h.filter _ (fun e _ hk => ?_) (fun e _ hk => ?_) (fun q z hz => (cutF_sub hz).1) ?_
  · exact cutF_off (keepW_true.1 hk)
  · refine cutF_on (Classical.not_not.1 fun hn => ?_)
    rw [keepW_true.2 hn] at hk; cases hk
  · exact cutF_off (fun h1 => partsB_ne hp (List.prefix_nil.1 h1))

/-- what stays of a tree where an entry is put -/
def keepP (e : Ent) (both : Bool) (x : Ent) : Bool := !(decide (orderL (partsB e.path) (partsB x.path) = 0) || (belowB x.path e.path && !both))
theorem putStep_form (e x : Ent) (both d : Bool) (out : List Ent) : putStep e both (out, d) x =
    if orderL (partsB e.path) (partsB x.path) < 0 ∧ d = false then (out ++ [e] ++ (if keepP e both x then [x] else []), true) else (out ++ (if keepP e both x then [x] else []), d) := by
  have hk : (orderL (partsB e.path) (partsB x.path) = 0 ∨ (belowB x.path e.path = true ∧ both = false)) ↔ keepP e both x = false := by
    unfold keepP
    by_cases h0 : orderL (partsB e.path) (partsB x.path) = 0
    · simp [h0]
    · cases belowB x.path e.path <;> cases both <;> simp [h0]
  unfold putStep
  simp only [hk]
  by_cases h1 : orderL (partsB e.path) (partsB x.path) < 0 ∧ d = false
  · simp only [if_pos h1]
    cases keepP e both x <;> simp
  · simp only [if_neg h1]
    cases keepP e both x <;> simp
theorem putStep_on (e : Ent) (both : Bool) (t : List Ent) : ∀ out, t.foldl (putStep e both) (out, true) = (out ++ t.filter (keepP e both), true) := by
  induction t with
  | nil => intro out; simp
  | cons x r ih =>
    intro out
    rw [List.foldl_cons, putStep_form, if_neg (by simp), ih]
    cases hk : keepP e both x <;> simp [hk]
theorem putStep_off (e : Ent) (both : Bool) (t : List Ent) (h : ∀ x ∈ t, ¬ orderL (partsB e.path) (partsB x.path) < 0) : ∀ out, t.foldl (putStep e both) (out, false) = (out ++ t.filter (keepP e both), false) := by
  induction t with
  | nil => intro out; simp
  | cons x r ih =>
    intro out
    rw [List.foldl_cons, putStep_form, if_neg (fun hh => h x (by simp) hh.1), ih (fun y hy => h y (by simp [hy]))]
    cases hk : keepP e both x <;> simp [hk]
theorem split_at {e : Ent} (t : List Ent) (hr : RiseE t) : ∃ t1 t2, t = t1 ++ t2 ∧ (∀ x ∈ t1, ¬ orderL (partsB e.path) (partsB x.path) < 0) ∧ (∀ x ∈ t2, orderL (partsB e.path) (partsB x.path) < 0) := by
  induction t with
  | nil => exact ⟨[], [], rfl, by simp, by simp⟩
  | cons x r ih =>
    by_cases hx : orderL (partsB e.path) (partsB x.path) < 0
    · refine ⟨[], x :: r, rfl, by simp, fun y hy => ?_⟩
      rcases List.mem_cons.1 hy with rfl | hy
      · exact hx
      · exact orderL_trans hx ((List.pairwise_cons.1 hr).1 y hy)
    · obtain ⟨t1, t2, rfl, h1, h2⟩ := ih (List.pairwise_cons.1 hr).2
      refine ⟨x :: t1, t2, rfl, fun y hy => ?_, h2⟩
      rcases List.mem_cons.1 hy with rfl | hy
      · exact hx
      · exact h1 y hy
theorem putL_form {e : Ent} {t1 t2 : List Ent} (h1 : ∀ x ∈ t1, ¬ orderL (partsB e.path) (partsB x.path) < 0) (h2 : ∀ x ∈ t2, orderL (partsB e.path) (partsB x.path) < 0) :
    putL (t1 ++ t2) e = t1.filter (keepP e (bothB (t1 ++ t2) e)) ++ e :: t2.filter (keepP e (bothB (t1 ++ t2) e)) := by
  unfold putL putGo
  generalize bothB (t1 ++ t2) e = both
  rw [List.foldl_append, putStep_off e both t1 h1]
  cases t2 with
  | nil => simp [putEnd]
  | cons x r =>
    rw [List.foldl_cons, putStep_form, if_pos ⟨h2 x (by simp), rfl⟩, putStep_on]
    cases hk : keepP e both x <;> simp [putEnd, hk]
theorem Lists.put {t : List Ent} {F : Forest} (h : Lists t F) (e : Ent) (hp : pathB e.path = true) (hne : e.path ≠ []) (hg : goodB e = true) : Lists (putL t e) (putF F (partsB e.path) (ndOf e)) := by
  obtain ⟨t1, t2, ht, h1, h2⟩ := split_at (e := e) t h.rise
  have hPne := partsB_ne hne
  have hboth : bothB t e = true ↔ (ndOf e).kind = 1 ∧ isDirF F (partsB e.path) = true := by
    unfold bothB
    rw [Bool.and_eq_true, kind_same h _ (Classical.em _), decide_eq_true_eq]
    exact And.comm
  have hkeep : ∀ x, keepP e (bothB t e) x = true ↔ partsB x.path ≠ partsB e.path ∧ (partsB e.path <+: partsB x.path → (ndOf e).kind = 1 ∧ isDirF F (partsB e.path) = true) := by
    intro x
    rw [← hboth]
    unfold keepP
    by_cases h0 : partsB x.path = partsB e.path
    · rw [h0, orderL_refl]; simp
    · have h3 : ¬ orderL (partsB e.path) (partsB x.path) = 0 := fun h => h0 (orderL_eq h).symm
      have h4 := @belowB_iff x.path e.path
      cases hb : belowB x.path e.path with
      | true =>
        have := (h4.1 hb).1
        cases bothB t e <;> simp [h3, h0, this]
      | false =>
        have h5 : ¬ partsB e.path <+: partsB x.path := fun hpre => by rw [h4.2 ⟨hpre, h0⟩] at hb; cases hb
        simp [h3, h0, h5]
  have hform : putL t e = t1.filter (keepP e (bothB t e)) ++ e :: t2.filter (keepP e (bothB t e)) := by rw [ht]; exact putL_form h1 h2
  have hmem : ∀ x, x ∈ putL t e ↔ x = e ∨ (x ∈ t ∧ keepP e (bothB t e) x = true) := by
    intro x
    rw [hform, List.mem_append, List.mem_cons, List.mem_filter, List.mem_filter]
    constructor
    · rintro (⟨m, k⟩ | rfl | ⟨m, k⟩)
      · exact .inr ⟨by rw [ht]; simp [m], k⟩
      · exact .inl rfl
      · exact .inr ⟨by rw [ht]; simp [m], k⟩
    · rintro (rfl | ⟨m, k⟩)
      · exact .inr (.inl rfl)
      · rw [ht] at m
        rcases List.mem_append.1 m with m | m
        · exact .inl ⟨m, k⟩
        · exact .inr (.inr ⟨m, k⟩)
  have hrise := h.rise
  rw [ht] at hrise
  have hrp := List.pairwise_append.1 hrise
  refine ⟨fun x hx => ?_, fun x hx => ?_, fun q z hz => ?_, ?_, ?_⟩
  · rcases (hmem x).1 hx with rfl | ⟨m, _⟩
    · exact ⟨hp, hne, hg⟩
    · exact h.each x m
  · rcases (hmem x).1 hx with rfl | ⟨m, k⟩
    · exact putF_same _ _ _
    · obtain ⟨k1, k2⟩ := (hkeep x).1 k
      rw [← h.mem x m]
      by_cases hpre : partsB e.path <+: partsB x.path
      · rw [putF_under hpre k1, if_pos (k2 hpre)]
      · exact putF_off hpre
  · by_cases hq : q = partsB e.path
    · subst hq
      rw [putF_same] at hz
      exact .inr ⟨e, (hmem e).2 (.inl rfl), rfl, Option.some.inj hz⟩
    · rcases h.only q z (putF_old hq hz) with e1 | ⟨x, m, rfl, hn⟩
      · exact .inl e1
      · refine .inr ⟨x, (hmem x).2 (.inr ⟨m, (hkeep x).2 ⟨hq, fun hpre => ?_⟩⟩), rfl, hn⟩
        rw [putF_under hpre hq] at hz
        split at hz
        · rename_i hc; exact hc
        · cases hz
  · rw [putF_off (fun hpre => hPne (List.prefix_nil.1 hpre))]; exact h.root
  · rw [hform]
    refine List.pairwise_append.2 ⟨hrp.1.sublist List.filter_sublist, List.pairwise_cons.2 ⟨fun x hx => h2 x (List.mem_filter.1 hx).1, hrp.2.1.sublist List.filter_sublist⟩, fun x hx y hy => ?_⟩
    obtain ⟨mx, kx⟩ := List.mem_filter.1 hx
    rcases List.mem_cons.1 hy with rfl | hy
    · have h3 : ¬ orderL (partsB y.path) (partsB x.path) = 0 := fun h => ((hkeep x).1 kx).1 (orderL_eq h).symm
      have := h1 x mx
      exact orderL_neg (by omega)
    · exact hrp.2.2 x mx y (List.mem_filter.1 hy).1
end Go.Proofs.YtpkabccinhfmbaaGreatDoor
namespace Go.Proofs.YtpkabccinhfmbaaGreatDoor

theorem Lists.uniqL {l m : List Ent} {F : Forest} (h : Lists l F) (k : Lists m F) : l = m := by
  refine riseE_unique h.rise k.rise fun x => ?_
  have half : ∀ {l m : List Ent}, Lists l F → Lists m F → x ∈ l → x ∈ m := by
    intro l m h k hx
    have h1 := h.mem x hx
    rcases k.only _ _ h1 with e | ⟨y, hy, e1, e2⟩
    · exact absurd e (partsB_ne (h.each x hx).2.1)
    · rw [← ent_eq e1 e2]; exact hy
  exact ⟨half h k, half k h⟩
theorem dir_prefix {G : Forest} (hG : IsTree G) {r q : Pth} (hr : r <+: q) (hne : r ≠ q) (h : (G q).isSome = true) : isDirF G r = true := by
  obtain ⟨s, rfl⟩ := hr
  cases s with
  | nil => exact absurd (List.append_nil r).symm hne
  | cons k s =>
    have h1 : (G (r ++ [k])).isSome = true := by
      cases hg : G (r ++ [k]) with
      | some _ => rfl
      | none =>
        have := hG.pre _ s hg
        rw [show r ++ k :: s = r ++ [k] ++ s by simp, this] at h; cases h
    obtain ⟨x, hx, hk⟩ := hG.up r k h1
    exact isDirF_iff.2 ⟨x, hx, hk⟩
theorem dirF_some {G : Forest} {q : Pth} (h : isDirF G q = true) : (G q).isSome = true := by
  obtain ⟨x, hx, _⟩ := isDirF_iff.1 h
  rw [hx]; rfl
def PutAt (F G : Forest) (q : Pth) (x : Nd) : Prop := G q = some x ∧ F q ≠ some x
def ClearAt (F G : Forest) (q : Pth) : Prop := isDirF F q = true ∧ isDirF G q = true ∧ lostB F G q = true
def GoneAt (F G : Forest) (q : Pth) : Prop := (F q).isSome = true ∧ G q = none ∧ isDirF G q.dropLast = true ∧ (isDirF F q.dropLast && isDirF G q.dropLast && lostB F G q.dropLast) = false
theorem mem_emit {a b : List Ent} {F G : Forest} (ha : Lists a F) (hb : Lists b G) {p : List UInt8} (hp : pathB p = true) (hne : p ≠ []) (c : Ent) :
    (c ∈ emit1 a b p ↔ ∃ x, PutAt F G (partsB p) x ∧ c = ⟨p, x.kind, x.mode, x.data⟩) ∧ (c ∈ emit2 a b p ↔ ClearAt F G (partsB p) ∧ c = ⟨p, 5, 0, []⟩) ∧ (c ∈ emit3 a b p ↔ GoneAt F G (partsB p) ∧ c = ⟨p, 4, 0, []⟩) := by
  have hq := partsB_ne hne
  have hj := joinB_parts p
  have hpj : partsB (joinB (partsB p)) = partsB p := by rw [hj]
  have hA := findL_of ha hq hpj
  have hB := findL_of hb hq hpj
  rw [hj] at hA hB
  have hu : (upB p).1 = joinB (partsB p).dropLast := by rw [← upB_parts hp, joinB_parts]
  have hpd : partsB (joinB (partsB p).dropLast) = (partsB p).dropLast := by rw [← upB_parts hp, joinB_parts]
  refine ⟨?_, ?_, ?_⟩
  · unfold emit1 PutAt
    rw [hA, hB]
    cases hG : G (partsB p) with
    | none => simp
    | some x =>
      have e1 : (Option.map (fun x : Nd => (⟨p, x.kind, x.mode, x.data⟩ : Ent)) (F (partsB p)) = some ⟨p, x.kind, x.mode, x.data⟩) ↔ F (partsB p) = some x := by
        cases F (partsB p) with
        | none => simp
        | some y =>
          obtain ⟨y1, y2, y3⟩ := y
          obtain ⟨x1, x2, x3⟩ := x
          simp
      simp only [Option.map_some, e1, Option.some.injEq]
      by_cases h : F (partsB p) = some x
      · rw [if_pos h]
        simp only [List.not_mem_nil, false_iff, not_exists]
        rintro y ⟨⟨rfl, h2⟩, _⟩; exact h2 h
      · rw [if_neg h, List.mem_singleton]
        exact ⟨fun e => ⟨x, ⟨rfl, h⟩, e⟩, fun ⟨y, ⟨h1, _⟩, e⟩ => by rw [e, h1]⟩
  · unfold emit2 ClearAt
    have hc := cleared_lost ha hb hpj
    rw [hj] at hc
    rw [hc]
    by_cases h : (isDirF F (partsB p) && isDirF G (partsB p) && lostB F G (partsB p)) = true
    · rw [if_pos h, List.mem_singleton]
      simp only [Bool.and_eq_true] at h
      exact ⟨fun e => ⟨⟨h.1.1, h.1.2, h.2⟩, e⟩, fun e => e.2⟩
    · rw [if_neg h]
      simp only [Bool.and_eq_true] at h
      simp only [List.not_mem_nil, false_iff]
      rintro ⟨⟨h1, h2, h3⟩, _⟩; exact h ⟨⟨h1, h2⟩, h3⟩
  · unfold emit3 GoneAt
    have hc := cleared_lost ha hb hpd
    have hk : kindL b (upB p).1 = 1 ↔ isDirF G (partsB p).dropLast = true := by
      have := kind_same hb (upB p).1 (Classical.em _)
      rw [upB_parts hp] at this
      rw [← this, decide_eq_true_eq]
    have e1 : (findL a p).isSome = (F (partsB p)).isSome := by rw [hA, Option.isSome_map]
    have e2 : ((findL b p).isSome = false) ↔ G (partsB p) = none := by rw [hB, Option.isSome_map]; cases G (partsB p) <;> simp
    have hcond : ((findL a p).isSome = true ∧ (findL b p).isSome = false ∧ kindL b (upB p).1 = 1 ∧ clearedL a b (upB p).1 = false) ↔ ((F (partsB p)).isSome = true ∧ G (partsB p) = none ∧ isDirF G (partsB p).dropLast = true ∧ (isDirF F (partsB p).dropLast && isDirF G (partsB p).dropLast && lostB F G (partsB p).dropLast) = false) := by
      rw [hk, e1, e2, hu, hc]
    by_cases h : (F (partsB p)).isSome = true ∧ G (partsB p) = none ∧ isDirF G (partsB p).dropLast = true ∧ (isDirF F (partsB p).dropLast && isDirF G (partsB p).dropLast && lostB F G (partsB p).dropLast) = false
    · rw [if_pos (hcond.2 h), List.mem_singleton]
      exact ⟨fun e => ⟨h, e⟩, fun e => e.2⟩
    · rw [if_neg (fun hh => h (hcond.1 hh))]
      simp only [List.not_mem_nil, false_iff]
      rintro ⟨h1, _⟩; exact h h1
theorem mem_emitL {a b : List Ent} {F G : Forest} (ha : Lists a F) (hb : Lists b G) {p : List UInt8} (hp : pathB p = true) (hne : p ≠ []) (c : Ent) :
    c ∈ emitL a b p ↔ (∃ x, PutAt F G (partsB p) x ∧ c = ⟨p, x.kind, x.mode, x.data⟩) ∨ (ClearAt F G (partsB p) ∧ c = ⟨p, 5, 0, []⟩) ∨ (GoneAt F G (partsB p) ∧ c = ⟨p, 4, 0, []⟩) := by
  obtain ⟨h1, h2, h3⟩ := mem_emit ha hb hp hne c
  unfold emitL
  rw [List.mem_append, List.mem_append, h1, h2, h3]
theorem emit_root {a b : List Ent} {F G : Forest} (ha : Lists a F) (hb : Lists b G) : emitL a b [] = if isDirF F [] = true ∧ isDirF G [] = true ∧ lostB F G [] = true then [⟨[], 5, 0, []⟩] else [] := by
  have hc := cleared_lost ha hb (p := []) rfl
  rw [show joinB ([] : Pth) = [] from rfl] at hc
  unfold emitL emit1 emit2 emit3
  rw [findL_root hb, findL_root ha, hc]
  simp only [Bool.and_eq_true, and_assoc]
  simp
theorem mem_emit_root {a b : List Ent} {F G : Forest} (ha : Lists a F) (hb : Lists b G) (c : Ent) : c ∈ emitL a b [] ↔ ClearAt F G [] ∧ c = ⟨[], 5, 0, []⟩ := by
  rw [emit_root ha hb]
  unfold ClearAt
  split
  · rename_i h; rw [List.mem_singleton]; exact ⟨fun e => ⟨h, e⟩, fun e => e.2⟩
  · rename_i h; simp only [List.not_mem_nil, false_iff]; rintro ⟨h1, _⟩; exact h h1
theorem merge_paths {a b : List Ent} {F G : Forest} (ha : Lists a F) (hb : Lists b G) {p : List UInt8} (h : p ∈ mergeL a b) : pathB p = true ∧ p ≠ [] := by
  rcases (mergeL_mem _ _ _).1 h with ⟨e, he, rfl⟩ | ⟨e, he, rfl⟩
  · exact ⟨(ha.each e he).1, (ha.each e he).2.1⟩
  · exact ⟨(hb.each e he).1, (hb.each e he).2.1⟩
/-- what is written of each change -/
theorem mem_diff {a b : List Ent} {F G : Forest} (ha : Lists a F) (hb : Lists b G) {c : Ent} (hc : c ∈ diffL a b) :
    pathB c.path = true ∧ ((c.path ≠ [] ∧ ∃ x, PutAt F G (partsB c.path) x ∧ c = ⟨c.path, x.kind, x.mode, x.data⟩) ∨ (ClearAt F G (partsB c.path) ∧ c = ⟨c.path, 5, 0, []⟩) ∨ (c.path ≠ [] ∧ GoneAt F G (partsB c.path) ∧ c = ⟨c.path, 4, 0, []⟩)) := by
  obtain ⟨p, hp, hc⟩ := List.mem_flatMap.1 hc
  rcases List.mem_cons.1 hp with rfl | hp
  · obtain ⟨h, rfl⟩ := (mem_emit_root ha hb c).1 hc
    exact ⟨by decide, .inr (.inl ⟨h, rfl⟩)⟩
  · obtain ⟨h1, h2⟩ := merge_paths ha hb hp
    rcases (mem_emitL ha hb h1 h2 c).1 hc with ⟨x, hx, rfl⟩ | ⟨h, rfl⟩ | ⟨h, rfl⟩
    · exact ⟨h1, .inl ⟨h2, x, hx, rfl⟩⟩
    · exact ⟨h1, .inr (.inl ⟨h, rfl⟩)⟩
    · exact ⟨h1, .inr (.inr ⟨h2, h, rfl⟩)⟩
theorem in_merge {a b : List Ent} {F G : Forest} (ha : Lists a F) (hb : Lists b G) {q : Pth} (hq : q ≠ []) (h : (F q).isSome = true ∨ (G q).isSome = true) : ∃ p, p ∈ mergeL a b ∧ partsB p = q ∧ pathB p = true ∧ p ≠ [] := by
  have key : ∀ {l : List Ent} {F : Forest}, Lists l F → (F q).isSome = true → ∃ e ∈ l, partsB e.path = q := by
    intro l F h hs
    obtain ⟨x, hx⟩ := Option.isSome_iff_exists.1 hs
    rcases h.only q x hx with e | ⟨e, he, h1, _⟩
    · exact absurd e hq
    · exact ⟨e, he, h1⟩
  rcases h with h | h
  · obtain ⟨e, he, h1⟩ := key ha h
    exact ⟨e.path, (mergeL_mem _ _ _).2 (.inl ⟨e, he, rfl⟩), h1, (ha.each e he).1, (ha.each e he).2.1⟩
  · obtain ⟨e, he, h1⟩ := key hb h
    exact ⟨e.path, (mergeL_mem _ _ _).2 (.inr ⟨e, he, rfl⟩), h1, (hb.each e he).1, (hb.each e he).2.1⟩
theorem put_in {a b : List Ent} {F G : Forest} (ha : Lists a F) (hb : Lists b G) {q : Pth} (hq : q ≠ []) {x : Nd} (h : PutAt F G q x) : ∃ c ∈ diffL a b, partsB c.path = q ∧ ndOf c = x := by
  obtain ⟨p, h1, rfl, h2, h3⟩ := in_merge ha hb hq (.inr (by rw [h.1]; rfl))
  exact ⟨⟨p, x.kind, x.mode, x.data⟩, List.mem_flatMap.2 ⟨p, by simp [h1], (mem_emitL ha hb h2 h3 _).2 (.inl ⟨x, h, rfl⟩)⟩, rfl, rfl⟩
theorem clear_in {a b : List Ent} {F G : Forest} (ha : Lists a F) (hb : Lists b G) {q : Pth} (h : ClearAt F G q) : ∃ c ∈ diffL a b, partsB c.path = q ∧ c.kind = 5 := by
  by_cases hq : q = []
  · subst hq
    exact ⟨⟨[], 5, 0, []⟩, List.mem_flatMap.2 ⟨[], by simp, (mem_emit_root ha hb _).2 ⟨h, rfl⟩⟩, rfl, rfl⟩
  · obtain ⟨p, h1, rfl, h2, h3⟩ := in_merge ha hb hq (.inr (dirF_some h.2.1))
    exact ⟨⟨p, 5, 0, []⟩, List.mem_flatMap.2 ⟨p, by simp [h1], (mem_emitL ha hb h2 h3 _).2 (.inr (.inl ⟨h, rfl⟩))⟩, rfl, rfl⟩
theorem gone_in {a b : List Ent} {F G : Forest} (ha : Lists a F) (hb : Lists b G) {q : Pth} (hq : q ≠ []) (h : GoneAt F G q) : ∃ c ∈ diffL a b, partsB c.path = q ∧ c.kind = 4 := by
  obtain ⟨p, h1, rfl, h2, h3⟩ := in_merge ha hb hq (.inl h.1)
  exact ⟨⟨p, 4, 0, []⟩, List.mem_flatMap.2 ⟨p, by simp [h1], (mem_emitL ha hb h2 h3 _).2 (.inr (.inr ⟨h, rfl⟩))⟩, rfl, rfl⟩

/-- one change ahead of another -/
def NextE (x y : Ent) : Prop := orderL (partsB x.path) (partsB y.path) < 0 ∨ (x.path = y.path ∧ x.kind = 1 ∧ y.kind = 5)
theorem emit_pair {a b : List Ent} {F G : Forest} (ha : Lists a F) (hb : Lists b G) {p : List UInt8} (hp : pathB p = true) (hne : p ≠ []) : (emitL a b p).Pairwise NextE := by
  have hone : ∀ {P : Prop} [Decidable P] (e : Ent), (if P then [e] else ([] : List Ent)).Pairwise NextE := by
    intro P _ e; split <;> simp
  unfold emitL
  refine List.pairwise_append.2 ⟨?_, List.pairwise_append.2 ⟨hone _, hone _, fun x hx y hy => ?_⟩, fun x hx y hy => ?_⟩
  · unfold emit1
    split
    · split <;> simp
    · simp
  · obtain ⟨h1, _⟩ := (mem_emit ha hb hp hne x).2.1.1 hx
    obtain ⟨h2, _⟩ := (mem_emit ha hb hp hne y).2.2.1 hy
    have := dirF_some h1.2.1
    rw [h2.2.1] at this; cases this
  · obtain ⟨z, h1, rfl⟩ := (mem_emit ha hb hp hne x).1.1 hx
    rcases List.mem_append.1 hy with hy | hy
    · obtain ⟨h2, rfl⟩ := (mem_emit ha hb hp hne y).2.1.1 hy
      obtain ⟨u, hu, hk⟩ := isDirF_iff.1 h2.2.1
      rw [h1.1] at hu
      obtain rfl := Option.some.inj hu
      exact .inr ⟨rfl, hk, rfl⟩
    · obtain ⟨h2, _⟩ := (mem_emit ha hb hp hne y).2.2.1 hy
      have h3 := h2.2.1
      rw [h1.1] at h3; cases h3
theorem emit_path {a b : List Ent} {F G : Forest} (ha : Lists a F) (hb : Lists b G) {p : List UInt8} (hp : p ∈ [] :: mergeL a b) {c : Ent} (hc : c ∈ emitL a b p) : c.path = p := by
  rcases List.mem_cons.1 hp with rfl | hp
  · obtain ⟨_, rfl⟩ := (mem_emit_root ha hb c).1 hc; rfl
  · obtain ⟨h1, h2⟩ := merge_paths ha hb hp
    rcases (mem_emitL ha hb h1 h2 c).1 hc with ⟨x, hx, rfl⟩ | ⟨h, rfl⟩ | ⟨h, rfl⟩ <;> rfl
theorem diff_pair {a b : List Ent} {F G : Forest} (ha : Lists a F) (hb : Lists b G) : (diffL a b).Pairwise NextE := by
  have hr : ([] :: mergeL a b).Pairwise fun p q => orderL (partsB p) (partsB q) < 0 := by
    refine List.pairwise_cons.2 ⟨fun q hq => ?_, List.pairwise_map.1 (mergeL_rise a b ha.rise hb.rise)⟩
    have := orderL_longer [] (partsB q) (partsB_ne (merge_paths ha hb hq).2)
    simpa [partsB] using this
  unfold diffL
  refine List.pairwise_flatMap.2 ⟨fun p hp => ?_, hr.imp_of_mem fun {p q} hp hq hlt x hx y hy => .inl ?_⟩
  · rcases List.mem_cons.1 hp with rfl | hp
    · rw [emit_root ha hb]; split <;> simp
    · obtain ⟨h1, h2⟩ := merge_paths ha hb hp
      exact emit_pair ha hb h1 h2
  · rw [emit_path ha hb hp hx, emit_path ha hb hq hy]; exact hlt
theorem diff_up {a b : List Ent} {F G : Forest} (ha : Lists a F) (hb : Lists b G) (hG : IsTree G) {c : Ent} (hc : c ∈ diffL a b) {r : Pth} (hr : r <+: partsB c.path) (hne : r ≠ partsB c.path) : isDirF G r = true := by
  obtain ⟨hp, h | h | ⟨hn, h, _⟩⟩ := mem_diff ha hb hc
  · obtain ⟨_, x, hx, _⟩ := h
    exact dir_prefix hG hr hne (by rw [hx.1]; rfl)
  · exact dir_prefix hG hr hne (dirF_some h.1.2.1)
  · obtain ⟨e1, _⟩ := parts_last hp hn
    rw [e1] at hr hne
    rcases prefix_snoc hr with h1 | h1
    · by_cases e : r = (partsB c.path).dropLast
      · rw [e]; exact h.2.2.1
      · exact dir_prefix hG h1 e (dirF_some h.2.2.1)
    · exact absurd h1 hne
theorem good_in {b : List Ent} {G : Forest} (hb : Lists b G) {c : Ent} (hne : c.path ≠ []) (h : G (partsB c.path) = some (ndOf c)) : goodB c = true := by
  rcases hb.only _ _ h with e | ⟨e, he, h1, h2⟩
  · exact absurd e (partsB_ne hne)
  · rw [← ent_eq h1 h2]; exact (hb.each e he).2.2
/-- what makes one of the other may be -/
theorem diff_barred {a b : List Ent} {F G : Forest} (ha : Lists a F) (hb : Lists b G) (hG : IsTree G) (hlen : (diffL a b).length ≤ 80) : First (barR (diffL a b)) (diffL a b).length (-1) := by
  have hpw := diff_pair ha hb
  refine .inr ⟨rfl, fun i hi => ?_⟩
  have hget : (diffL a b)[i]? = some (diffL a b)[i] := List.getElem?_eq_getElem hi
  have hmem := List.getElem_mem hi
  obtain ⟨hp, hk⟩ := mem_diff ha hb hmem
  refine barR_ok hget ?_ ?_ ?_
  · have h80 : decide (i = 80) = false := decide_eq_false (by omega)
    unfold shapeR
    rw [h80, hp]
    rcases hk with ⟨hne, x, hx, hc⟩ | ⟨_, hc⟩ | ⟨hne, _, hc⟩
    · have hg : goodB (diffL a b)[i] = true := good_in hb hne (by rw [hx.1]; congr 1; rw [hc]; rfl)
      have : (diffL a b)[i].path.isEmpty = false := List.isEmpty_eq_false_iff.2 hne
      rw [hg, this]; rfl
    · rw [hc]; simp [markB]
    · have : (diffL a b)[i].path.isEmpty = false := List.isEmpty_eq_false_iff.2 hne
      rw [hc]
      simp only [this]; simp [markB]
  · by_cases h0 : i = 0
    · exact .inl h0
    · refine .inr ⟨(diffL a b)[i - 1], List.getElem?_eq_getElem (by omega), ?_⟩
      have h := List.pairwise_iff_getElem.1 hpw (i - 1) i (by omega) hi (by omega)
      unfold nextR
      rcases h with h | ⟨h1, h2, h3⟩
      · rw [decide_eq_false (by omega)]; rfl
      · rw [h1, orderL_refl, h2, h3]; decide
  · refine shutR_none fun q x hq => ?_
    by_cases h1 : x.kind = 1
    · exact .inr (.inl h1)
    by_cases h5 : x.kind = 5
    · exact .inr (.inr h5)
    left
    have hx : x ∈ diffL a b := List.mem_of_mem_take (List.mem_of_getElem? hq)
    cases hbl : belowB (diffL a b)[i].path x.path with
    | false => rfl
    | true =>
      obtain ⟨e1, e2⟩ := belowB_iff.1 hbl
      have hd := diff_up ha hb hG hmem e1 (fun e => e2 e.symm)
      obtain ⟨z, hz, hzk⟩ := isDirF_iff.1 hd
      obtain ⟨_, ⟨_, y, hy, hc⟩ | ⟨_, hc⟩ | ⟨_, hg, _⟩⟩ := mem_diff ha hb hx
      · rw [hy.1] at hz
        obtain rfl := Option.some.inj hz
        rw [hc] at h1; exact absurd hzk h1
      · rw [hc] at h5; exact absurd rfl h5
      · rw [hg.2.1] at hz; cases hz
theorem emit_len2 {a b : List Ent} {F G : Forest} (ha : Lists a F) (hb : Lists b G) {p : List UInt8} (hp : p ∈ mergeL a b) : (emitL a b p).length ≤ 2 := by
  obtain ⟨h1, h2⟩ := merge_paths ha hb hp
  have g1 : (emit1 a b p).length ≤ 1 := by unfold emit1; split <;> (try split) <;> simp
  have g2 : (emit2 a b p).length ≤ 1 := by unfold emit2; split <;> simp
  have g3 : (emit3 a b p).length ≤ 1 := by unfold emit3; split <;> simp
  have hx : emit2 a b p = [] ∨ emit3 a b p = [] := by
    cases e2 : emit2 a b p with
    | nil => exact .inl rfl
    | cons x r =>
      cases e3 : emit3 a b p with
      | nil => exact .inr rfl
      | cons y s =>
        have k2 := ((mem_emit ha hb h1 h2 x).2.1.1 (by rw [e2]; simp)).1
        have k3 := ((mem_emit ha hb h1 h2 y).2.2.1 (by rw [e3]; simp)).1
        have := dirF_some k2.2.1
        rw [k3.2.1] at this; cases this
  unfold emitL
  simp only [List.length_append]
  rcases hx with e | e <;> rw [e] <;> simp <;> omega
theorem diff_len2 {a b : List Ent} {F G : Forest} (ha : Lists a F) (hb : Lists b G) : (diffL a b).length ≤ 2 * (a.length + b.length) + 1 := by
  have : ∀ l : List (List UInt8), (∀ p ∈ l, p ∈ mergeL a b) → (l.flatMap (emitL a b)).length ≤ 2 * l.length := by
    intro l
    induction l with
    | nil => simp
    | cons p r ih =>
      intro h
      rw [List.flatMap_cons, List.length_append, List.length_cons]
      have := emit_len2 ha hb (h p (by simp)); have := ih (fun q hq => h q (by simp [hq])); omega
  have h := this (mergeL a b) (fun _ h => h)
  have := merge_len a b
  have h0 : (emitL a b []).length ≤ 1 := by rw [emit_root ha hb]; split <;> simp
  unfold diffL
  rw [List.flatMap_cons, List.length_append]; omega
end Go.Proofs.YtpkabccinhfmbaaGreatDoor
