/-
  The program: everything below a node, one by one (the recursive closure of Walk).
  Plain words: a list of entries that is a tree's is what a walk through the tree gives, and the only one. No program in sight.
  Plain words: what makes one tree of another, as the document has it, and as the program goes through two trees; they are the same. No program in sight.
  Plain words: what makes one tree of another: the document's list is the program's. No program in sight.
-/
import Derived.Shelf.Abstract
import Derived.Shelf.RegionOpen
import Derived.WalkKit
import Derived.OwnWalkIn
import Derived.TacticsInMore
import Derived.LoopNIn
import Derived.LoopIn
import Derived.Test.YtpkabccinhfmbaaGreatDoorY01
import Derived.Test.YtpkabccinhfmbaaGreatDoorY02
import Derived.Test.YtpkabccinhfmbaaGreatDoorY04
import Derived.Test.YtpkabccinhfmbaaGreatDoorY05
import Derived.Test.YtpkabccinhfmbaaGreatDoorY07
set_option linter.unusedVariables false
set_option linter.unusedSimpArgs false
namespace Go.Proofs.YtpkabccinhfmbaaGreatDoor
open Go Go.RowKit Go.Shelf
attribute [local go_sem] Oper.semAt_some

theorem room_wide' (k : Nat) : Fence.wide.room k := fun d h => by cases h
theorem YieldAt.wide {m m' : Nat} {P : Program} {l : Nat} {args : Array Value} {W : World} {R : Ending → World → Prop} (h : YieldAt Fence.wide m P l args W R) : YieldAt Fence.wide m' P l args W R := by
  obtain ⟨fn, tmps, assign, body, hy, hR⟩ := h
  exact ⟨fn, tmps, assign, body, hy, hR.1, fun c cs _ => hR.2 c cs (room_wide' _)⟩
/-- the blocks of a tree are among X -/
def TreeX (X : Nat → Prop) (a m : Pth → Nat) (F : Forest) : Prop := ∀ p x, F p = some x → X (a p) ∧ (x.kind = 1 → X (m p))
theorem TreeAt.stayX {w w' : World} {B N : Nat} {a m : Pth → Nat} {F : Forest} {X : Nat → Prop} (h : TreeAt w B N a m F) (hX : TreeX X a m F) (hs : ∀ k, X k → w'.heap[k]? = w.heap[k]?) : TreeAt w' B N a m F :=
  ⟨h.tree, fun p x hx => (hs _ (hX p x hx).1).trans (h.node p x hx), fun p x hx hk => (h.dir p x hx hk).block (hs _ ((hX p x hx).2 hk)), h.base, h.inj, h.injm⟩
theorem cell_stay {w w' : World} {k o : Nat} {v : Value} (h : w.cell? ⟨k, o, none⟩ = some v) (hs : w'.heap[k]? = w.heap[k]?) : w'.cell? ⟨k, o, none⟩ = some v := by
  rw [← h]; exact World.cell?_of_block hs
/-- an entry of a tree, by its path -/
def entAt (F : Forest) (p : Pth) : Ent := match F p with | some x => ⟨joinB p, x.kind, x.mode, x.data⟩ | none => ⟨joinB p, 0, 0, []⟩
theorem entAt_some {F : Forest} {p : Pth} {x : Nd} (h : F p = some x) : entAt F p = ⟨joinB p, x.kind, x.mode, x.data⟩ := by unfold entAt; rw [h]
/-- everything below a path, in order -/
inductive WalkL (F : Forest) : Pth → List Ent → Prop
  | mk (p : Pth) (ks : List (List UInt8)) (Ls : List UInt8 → List Ent) : Rise ks → (∀ x, x ∈ ks ↔ (F (p ++ [x])).isSome = true) → (∀ x ∈ ks, WalkL F (p ++ [x]) (Ls x)) → WalkL F p (ks.flatMap fun k => entAt F (p ++ [k]) :: Ls k)
theorem bytes_anti {a b : List UInt8} (h : a < b) (k : b < a) : False := List.lt_irrefl a (List.lt_trans h k)
theorem rise_unique {l m : List (List UInt8)} (hl : Rise l) (hm : Rise m) (h : ∀ x, x ∈ l ↔ x ∈ m) : l = m := by
  induction l generalizing m with
  | nil =>
    cases m with
    | nil => rfl
    | cons y ys => exact absurd ((h y).2 (by simp)) (by simp)
  | cons x xs ih =>
    cases m with
    | nil => exact absurd ((h x).1 (by simp)) (by simp)
    | cons y ys =>
      have hx := List.pairwise_cons.1 hl
      have hy := List.pairwise_cons.1 hm
      have hxy : x = y := by
        rcases List.mem_cons.1 ((h x).1 (by simp)) with e | e
        · exact e
        · rcases List.mem_cons.1 ((h y).2 (by simp)) with e2 | e2
          · exact e2.symm
          · exact (bytes_anti (hy.1 x e) (hx.1 y e2)).elim
      subst hxy
      congr 1
      refine ih hx.2 hy.2 fun z => ⟨fun hz => ?_, fun hz => ?_⟩
      · rcases List.mem_cons.1 ((h z).1 (by simp [hz])) with e | e
        · subst e; exact absurd (hx.1 z hz) (List.lt_irrefl z)
        · exact e
      · rcases List.mem_cons.1 ((h z).2 (by simp [hz])) with e | e
        · subst e; exact absurd (hy.1 z hz) (List.lt_irrefl z)
        · exact e
/-- a forest whose paths are paths -/
structure FineF (F : Forest) : Prop where
  join : ∀ p k, (F (p ++ [k])).isSome = true → inB (joinB p) k = joinB (p ++ [k])
  len : ∀ p x, F p = some x → (joinB p).length ≤ 1000 ∧ p.length ≤ 12
  name : ∀ p k, (F (p ++ [k])).isSome = true → k.length ≤ 1000
def encE (e : Ent) : Array Value := #[.string (S e.path), e.agg]
end Go.Proofs.YtpkabccinhfmbaaGreatDoor
namespace Go.Proofs.YtpkabccinhfmbaaGreatDoor

theorem ent_eq {a b : Ent} (h1 : partsB a.path = partsB b.path) (h2 : ndOf a = ndOf b) : a = b := by
  obtain ⟨p, k, m, d⟩ := a
  obtain ⟨p', k', m', d'⟩ := b
  have h3 := parts_same h1
  simp only at h3
  simp only [ndOf, Nd.mk.injEq] at h2
  obtain ⟨rfl, rfl, rfl⟩ := h2
  rw [h3]
theorem orderL_app (p a b : List (List UInt8)) : orderL (p ++ a) (p ++ b) = orderL a b := by
  induction p with
  | nil => rfl
  | cons x xs ih => rw [List.cons_append, List.cons_append, orderL, if_neg (List.lt_irrefl x), if_neg (List.lt_irrefl x)]; exact ih
theorem orderL_longer (p r : List (List UInt8)) (h : r ≠ []) : orderL p (p ++ r) < 0 := by
  have := orderL_app p [] r
  rw [List.append_nil] at this
  rw [this]
  cases r with
  | nil => exact absurd rfl h
  | cons x xs => simp only [orderL, List.length_nil, List.length_cons]; omega
theorem orderL_neg {a b : List (List UInt8)} (h : 0 < orderL a b) : orderL b a < 0 := by
  induction a generalizing b with
  | nil =>
    cases b with
    | nil => simp [orderL] at h
    | cons y ys => simp only [orderL, List.length_nil, List.length_cons] at h; omega
  | cons x xs ih =>
    cases b with
    | nil => simp only [orderL, List.length_nil, List.length_cons]; omega
    | cons y ys =>
      rw [orderL] at h ⊢
      by_cases hxy : x < y
      · rw [if_pos hxy] at h; omega
      · rw [if_neg hxy] at h
        by_cases hyx : y < x
        · rw [if_pos hyx]; omega
        · rw [if_neg hyx] at h
          rw [if_neg hyx, if_neg hxy]; exact ih h
abbrev RiseE (l : List Ent) : Prop := l.Pairwise fun a b => orderL (partsB a.path) (partsB b.path) < 0
theorem riseE_unique {l m : List Ent} (hl : RiseE l) (hm : RiseE m) (h : ∀ x, x ∈ l ↔ x ∈ m) : l = m := by
  induction l generalizing m with
  | nil =>
    cases m with
    | nil => rfl
    | cons y ys => exact absurd ((h y).2 (by simp)) (by simp)
  | cons x xs ih =>
    cases m with
    | nil => exact absurd ((h x).1 (by simp)) (by simp)
    | cons y ys =>
      have hx := List.pairwise_cons.1 hl
      have hy := List.pairwise_cons.1 hm
      have irr : ∀ z : Ent, ¬ orderL (partsB z.path) (partsB z.path) < 0 := fun z hz => by rw [orderL_refl] at hz; omega
      have hxy : x = y := by
        rcases List.mem_cons.1 ((h x).1 (by simp)) with e | e
        · exact e
        · rcases List.mem_cons.1 ((h y).2 (by simp)) with e2 | e2
          · exact e2.symm
          · have := orderL_anti (hy.1 x e); have := hx.1 y e2; omega
      subst hxy
      congr 1
      refine ih hx.2 hy.2 fun z => ⟨fun hz => ?_, fun hz => ?_⟩
      · rcases List.mem_cons.1 ((h z).1 (by simp [hz])) with e | e
        · subst e; exact absurd (hx.1 z hz) (irr z)
        · exact e
      · rcases List.mem_cons.1 ((h z).2 (by simp [hz])) with e | e
        · subst e; exact absurd (hy.1 z hz) (irr z)
        · exact e
theorem Lists.uniqF {l : List Ent} {F G : Forest} (h : Lists l F) (k : Lists l G) : F = G := by
  have half : ∀ {F G : Forest}, Lists l F → Lists l G → ∀ p x, F p = some x → G p = some x := by
    intro F G h k p x hx
    rcases h.only p x hx with rfl | ⟨e, he, rfl, rfl⟩
    · rw [h.root] at hx; obtain rfl := Option.some.inj hx; exact k.root
    · exact k.mem e he
  funext p
  cases hF : F p with
  | some x => exact (half h k p x hF).symm
  | none =>
    cases hG : G p with
    | none => rfl
    | some y => rw [half k h p y hG] at hF; cases hF
theorem lists_treeOf {l : List Ent} (he : ∀ e ∈ l, pathB e.path = true ∧ e.path ≠ [] ∧ goodB e = true) (hr : RiseE l) : Lists l (treeOf l) := by
  suffices hh : ∀ n (l : List Ent), l.length = n → (∀ e ∈ l, pathB e.path = true ∧ e.path ≠ [] ∧ goodB e = true) → RiseE l → Lists l (treeOf l) from hh _ l rfl he hr
  intro n
  induction n with
  | zero => intro l hl _ _; rw [List.eq_nil_of_length_eq_zero hl]; exact Lists.nil
  | succ n ih =>
    intro l hl he hr
    rcases nil_or_snoc l with rfl | ⟨a, b, rfl⟩
    · simp at hl
    · have hp := List.pairwise_append.1 hr
      obtain ⟨e1, e2, e3⟩ := he b (by simp)
      rw [show treeOf (a ++ [b]) = putF (treeOf a) (partsB b.path) (ndOf b) from layF_snoc _ _ _]
      exact (ih a (by simpa using hl) (fun e h => he e (by simp [h])) hp.1).snoc b e1 e2 e3 (fun e h => hp.2.2 e h b (by simp))
/-- a path's elements, of one that stands in a tree -/
theorem Lists.elems {l : List Ent} {F : Forest} (h : Lists l F) {p : Pth} {x : Nd} (hx : F p = some x) : (∀ e ∈ p, elementB e = true) ∧ (joinB p).length ≤ 170 ∧ p.length ≤ 12 := by
  rcases h.only p x hx with rfl | ⟨e, he, rfl, _⟩
  · simp [joinB]
  · obtain ⟨hp, _, _⟩ := h.each e he
    obtain ⟨h1, h2⟩ := pathB_ok hp
    refine ⟨h2, by rw [joinB_parts]; exact h1, ?_⟩
    unfold pathB at hp
    simp only [Bool.and_eq_true, decide_eq_true_eq] at hp
    exact hp.1.2
theorem Lists.fine {l : List Ent} {F : Forest} (h : Lists l F) : FineF F := by
  refine ⟨fun p k hk => ?_, fun p x hx => ?_, fun p k hk => ?_⟩
  · obtain ⟨x, hx⟩ := Option.isSome_iff_exists.1 hk
    obtain ⟨h1, _, _⟩ := h.elems hx
    exact inB_join (fun e he => (elementB_ok (h1 e (by simp [he]))).1) (elementB_ok (h1 k (by simp))).1
  · obtain ⟨_, h2, h3⟩ := h.elems hx; exact ⟨by omega, h3⟩
  · obtain ⟨x, hx⟩ := Option.isSome_iff_exists.1 hk
    have := (elementB_ok ((h.elems hx).1 k (by simp))).2.1; omega
theorem rise_of (l : List (List UInt8)) : ∃ ks, Rise ks ∧ ∀ x, x ∈ ks ↔ x ∈ l := by
  induction l with
  | nil => exact ⟨[], List.Pairwise.nil, fun x => Iff.rfl⟩
  | cons y r ih =>
    obtain ⟨ks, h1, h2⟩ := ih
    by_cases hy : y ∈ ks
    · refine ⟨ks, h1, fun x => ?_⟩
      rw [List.mem_cons, ← h2 x]
      exact ⟨.inr, fun h => h.elim (fun e => e ▸ hy) id⟩
    · refine ⟨srt (y :: ks), srt_rise (List.nodup_cons.2 ⟨hy, h1.imp (fun {a b} (h : a < b) (e : a = b) => by subst e; exact List.lt_irrefl a h)⟩), fun x => ?_⟩
      rw [srt_mem, List.mem_cons, List.mem_cons, h2 x]
theorem Lists.names {l : List Ent} {F : Forest} (h : Lists l F) (p : Pth) : ∃ ks, Rise ks ∧ ∀ x, x ∈ ks ↔ (F (p ++ [x])).isSome = true := by
  obtain ⟨ks, h1, h2⟩ := rise_of (l.filterMap fun e => if partsB e.path = p ++ [(partsB e.path).getLastD []] then some ((partsB e.path).getLastD []) else none)
  refine ⟨ks, h1, fun x => ?_⟩
  rw [h2, List.mem_filterMap]
  constructor
  · rintro ⟨e, he, hx⟩
    split at hx
    · rename_i hp
      obtain rfl := Option.some.inj hx
      rw [← hp, h.mem e he]; rfl
    · cases hx
  · intro hx
    obtain ⟨y, hy⟩ := Option.isSome_iff_exists.1 hx
    rcases h.only _ y hy with e1 | ⟨e, he, hp, _⟩
    · simp at e1
    · refine ⟨e, he, ?_⟩
      rw [hp, List.getLastD_concat, if_pos rfl]
theorem Lists.walks {l : List Ent} {F : Forest} (h : Lists l F) : ∀ (d : Nat) (p : Pth), p.length + d = 13 → ∃ L, WalkL F p L := by
  intro d
  induction d with
  | zero =>
    intro p hp
    obtain ⟨ks, h1, h2⟩ := h.names p
    refine ⟨_, .mk p ks (fun _ => []) h1 h2 fun x hx => ?_⟩
    obtain ⟨y, hy⟩ := Option.isSome_iff_exists.1 ((h2 x).1 hx)
    have := (h.elems hy).2.2
    simp only [List.length_append, List.length_singleton] at this; omega
  | succ d ih =>
    intro p hp
    obtain ⟨ks, h1, h2⟩ := h.names p
    have hc : ∀ x, ∃ L, WalkL F (p ++ [x]) L := fun x => ih (p ++ [x]) (by simp; omega)
    exact ⟨_, .mk p ks (fun x => Classical.choose (hc x)) h1 h2 fun x _ => Classical.choose_spec (hc x)⟩
theorem WalkL.mem {F : Forest} (hT : IsTree F) {p : Pth} {L : List Ent} (h : WalkL F p L) : ∀ e, e ∈ L ↔ ∃ r x, r ≠ [] ∧ F (p ++ r) = some x ∧ e = entAt F (p ++ r) := by
  induction h with
  | mk p ks Ls hR hmem hLs ih =>
    intro e
    rw [List.mem_flatMap]
    constructor
    · rintro ⟨k, hk, he⟩
      rcases List.mem_cons.1 he with rfl | he
      · obtain ⟨y, hy⟩ := Option.isSome_iff_exists.1 ((hmem k).1 hk)
        exact ⟨[k], y, by simp, hy, rfl⟩
      · obtain ⟨r, x, _, h2, h3⟩ := (ih k hk e).1 he
        refine ⟨k :: r, x, by simp, ?_, ?_⟩
        · rw [← h2, List.append_assoc]; rfl
        · rw [h3, List.append_assoc]; rfl
    · rintro ⟨r, x, h1, h2, h3⟩
      cases r with
      | nil => exact absurd rfl h1
      | cons k r =>
        have e1 : p ++ k :: r = p ++ [k] ++ r := by simp
        rw [e1] at h2 h3
        have hk : (F (p ++ [k])).isSome = true := by
          cases hF : F (p ++ [k]) with
          | some _ => rfl
          | none => rw [hT.pre _ _ hF] at h2; cases h2
        refine ⟨k, (hmem k).2 hk, List.mem_cons.2 ?_⟩
        by_cases hr : r = []
        · subst hr; rw [List.append_nil] at h3; exact .inl h3
        · exact .inr ((ih k ((hmem k).2 hk) e).2 ⟨r, x, hr, h2, h3⟩)
theorem WalkL.rise {F : Forest} (hT : IsTree F) (hP : ∀ q x, F q = some x → partsB (joinB q) = q) {p : Pth} {L : List Ent} (h : WalkL F p L) : RiseE L := by
  induction h with
  | mk p ks Ls hR hmem hLs ih =>
    have hent : ∀ q x, F q = some x → partsB (entAt F q).path = q := fun q x hx => by rw [entAt_some hx]; exact hP q x hx
    have hin : ∀ k ∈ ks, ∀ e ∈ entAt F (p ++ [k]) :: Ls k, ∃ r, partsB e.path = p ++ k :: r := by
      intro k hk e he
      rcases List.mem_cons.1 he with rfl | he
      · obtain ⟨y, hy⟩ := Option.isSome_iff_exists.1 ((hmem k).1 hk)
        exact ⟨[], hent _ _ hy⟩
      · obtain ⟨r, x, _, h2, rfl⟩ := ((hLs k hk).mem hT e).1 he
        exact ⟨r, by rw [hent _ _ h2]; simp⟩
    refine List.pairwise_flatMap.2 ⟨fun k hk => List.pairwise_cons.2 ⟨fun e he => ?_, ih k hk⟩, hR.imp_of_mem fun {k1 k2} hk1 hk2 hlt e1 he1 e2 he2 => ?_⟩
    · obtain ⟨y, hy⟩ := Option.isSome_iff_exists.1 ((hmem k).1 hk)
      obtain ⟨r, x, hr, h2, rfl⟩ := ((hLs k hk).mem hT e).1 he
      rw [hent _ _ hy, hent _ _ h2]
      exact orderL_longer _ _ hr
    · obtain ⟨r1, e1⟩ := hin k1 hk1 e1 he1
      obtain ⟨r2, e2⟩ := hin k2 hk2 e2 he2
      rw [e1, e2, orderL_app, orderL, if_pos hlt]; omega
/-- a tree's list is what a walk gives -/
theorem Lists.walk {l : List Ent} {F : Forest} (h : Lists l F) (hT : IsTree F) : WalkL F [] l := by
  have hP : ∀ q x, F q = some x → partsB (joinB q) = q := fun q x hx => parts_join2 fun e he => by
    have := elementB_ok ((h.elems hx).1 e he); exact ⟨this.1, this.2.2⟩
  obtain ⟨L, hL⟩ := h.walks 13 [] (by simp)
  have e : L = l := riseE_unique (hL.rise hT hP) h.rise fun e => by
    rw [hL.mem hT e]
    constructor
    · rintro ⟨r, x, hr, hx, rfl⟩
      rw [List.nil_append] at hx ⊢
      rcases h.only r x hx with rfl | ⟨e, he, hp, hn⟩
      · exact absurd rfl hr
      · have : entAt F r = e := ent_eq (by rw [entAt_some hx, hp]; exact hP r x hx) (by rw [hn, entAt_some hx]; rfl)
        rw [this]; exact he
    · intro he
      obtain ⟨_, hne, _⟩ := h.each e he
      refine ⟨partsB e.path, ndOf e, partsB_ne hne, h.mem e he, ?_⟩
      rw [List.nil_append, entAt_some (h.mem e he), joinB_parts]; rfl
  rw [← e]; exact hL
/-- .. and each entry's directory is ahead of it -/
theorem Lists.hup {l : List Ent} {F : Forest} (h : Lists l F) (hT : IsTree F) : ∀ pre y rest, l = pre ++ y :: rest → pathB y.path = true ∧ y.path ≠ [] ∧ isDirF (treeOf pre) (partsB y.path).dropLast = true := by
  intro pre y rest hl
  obtain ⟨h1, h2, h3⟩ := h.each y (by rw [hl]; simp)
  refine ⟨h1, h2, ?_⟩
  have hr := h.rise
  rw [hl] at hr
  have hr' := List.pairwise_append.1 hr
  have hL := lists_treeOf (l := pre) (fun e he => h.each e (by rw [hl]; simp [he])) hr'.1
  obtain ⟨e1, _⟩ := parts_last h1 h2
  generalize (partsB y.path).dropLast = d at *
  have hy := h.mem y (by rw [hl]; simp)
  rw [e1] at hy
  obtain ⟨x, hx, hk⟩ := hT.up d _ (by rw [hy]; rfl)
  rcases h.only d x hx with rfl | ⟨e, he, rfl, rfl⟩
  · exact isDirF_iff.2 ⟨_, hL.root, rfl⟩
  · refine isDirF_iff.2 ⟨ndOf e, hL.mem e ?_, hk⟩
    rw [hl] at he
    have hlt : orderL (partsB e.path) (partsB y.path) < 0 := by rw [e1]; exact orderL_longer _ _ (by simp)
    rcases List.mem_append.1 he with he | he
    · exact he
    · rcases List.mem_cons.1 he with rfl | he
      · rw [orderL_refl] at hlt; omega
      · have := orderL_anti ((List.pairwise_cons.1 hr'.2.1).1 e he); omega
theorem kindF_same {l : List Ent} {F : Forest} (h : Lists l F) (d : List UInt8) : kindL l d = kindF F (partsB d) := by
  unfold kindL kindF
  by_cases h0 : d = []
  · subst h0
    rw [if_pos rfl, show partsB ([] : List UInt8) = [] from rfl, h.root]
  · rw [if_neg h0]
    cases hf : l.find? (fun e => decide (e.path = d)) with
    | some e =>
      have h1 := List.find?_some hf
      have h2 := List.mem_of_find?_eq_some hf
      have h3 : e.path = d := by simpa using h1
      rw [← h3, h.mem e h2]; rfl
    | none =>
      cases hF : F (partsB d) with
      | none => rfl
      | some x =>
        rcases h.only _ x hF with h1 | ⟨e, he, h1, _⟩
        · exact absurd h1 (partsB_ne h0)
        · have := List.find?_eq_none.1 hf e he
          rw [parts_same h1] at this; simp at this
end Go.Proofs.YtpkabccinhfmbaaGreatDoor
namespace Go.Proofs.YtpkabccinhfmbaaGreatDoor

def childrenL (l : List Ent) (d : List UInt8) : List Ent := l.filter fun c => decide ((upB c.path).1 = d)
def clearedL (a b : List Ent) (d : List UInt8) : Bool := decide (kindL a d = 1) && decide (kindL b d = 1) && (childrenL a d).all (fun c => decide (kindL b c.path = 0)) && decide (1 < (childrenL a d).length)
/-- all paths of two lists, in order -/
def mergeL : List Ent → List Ent → List (List UInt8)
  | [], b => b.map Ent.path
  | x :: a, [] => (x :: a).map Ent.path
  | x :: a, y :: b => if orderL (partsB x.path) (partsB y.path) < 0 then x.path :: mergeL a (y :: b) else if orderL (partsB x.path) (partsB y.path) = 0 then x.path :: mergeL a b else y.path :: mergeL (x :: a) b
termination_by a b => a.length + b.length
def findL (l : List Ent) (p : List UInt8) : Option Ent := l.find? fun e => decide (e.path = p)
def emit1 (a b : List Ent) (p : List UInt8) : List Ent := match findL b p with
  | some y => if findL a p = some y then [] else [y]
  | none => []
def emit2 (a b : List Ent) (p : List UInt8) : List Ent := if clearedL a b p = true then [⟨p, 5, 0, []⟩] else []
def emit3 (a b : List Ent) (p : List UInt8) : List Ent := if (findL a p).isSome = true ∧ (findL b p).isSome = false ∧ kindL b (upB p).1 = 1 ∧ clearedL a b (upB p).1 = false then [⟨p, 4, 0, []⟩] else []
/-- what the document writes down at a path -/
def emitL (a b : List Ent) (p : List UInt8) : List Ent := emit1 a b p ++ (emit2 a b p ++ emit3 a b p)
def diffL (a b : List Ent) : List Ent := ([] :: mergeL a b).flatMap (emitL a b)

open Classical in
/-- the names below a path, rising -/
noncomputable def namesF (F : Forest) (p : Pth) : List (List UInt8) := if h : ∃ ks, Rise ks ∧ ∀ x, x ∈ ks ↔ (F (p ++ [x])).isSome = true then Classical.choose h else []
theorem namesF_of {F : Forest} {p : Pth} {ks : List (List UInt8)} (h1 : Rise ks) (h2 : ∀ x, x ∈ ks ↔ (F (p ++ [x])).isSome = true) : namesF F p = ks := by
  have h : ∃ ks, Rise ks ∧ ∀ x, x ∈ ks ↔ (F (p ++ [x])).isSome = true := ⟨ks, h1, h2⟩
  unfold namesF
  rw [dif_pos h]
  obtain ⟨g1, g2⟩ := Classical.choose_spec h
  exact rise_unique g1 h1 fun x => (g2 x).trans (h2 x).symm
/-- either of two trees -/
def orF (F G : Forest) : Forest := fun p => match F p with | some x => some x | none => G p
theorem orF_some {F G : Forest} {p : Pth} : (orF F G p).isSome = true ↔ (F p).isSome = true ∨ (G p).isSome = true := by
  unfold orF
  cases F p <;> simp
/-- is a directory of one such that of its two and more things none is in the other -/
noncomputable def lostB (F G : Forest) (p : Pth) : Bool := (namesF F p).all (fun k => (G (p ++ [k])).isNone) && decide (1 < (namesF F p).length)
noncomputable def stepE (F G : Forest) (p : Pth) (k : List UInt8) : List Ent := match G (p ++ [k]) with
  | none => if lostB F G p = true then [] else [⟨joinB (p ++ [k]), 4, 0, []⟩]
  | some x => if F (p ++ [k]) = some x then [] else [⟨joinB (p ++ [k]), x.kind, x.mode, x.data⟩]
/-- what the program writes down, from a directory on -/
noncomputable def diffGo (F G : Forest) : Nat → Pth → List Ent
  | 0, _ => []
  | d + 1, p => (if lostB F G p = true then [⟨joinB p, 5, 0, []⟩] else []) ++ (namesF (orF F G) p).flatMap fun k => stepE F G p k ++ (if isDirF G (p ++ [k]) = true then diffGo F G d (p ++ [k]) else [])

-- paths in order
abbrev RiseP (l : List Pth) : Prop := l.Pairwise fun a b => orderL a b < 0
theorem riseP_unique {l m : List Pth} (hl : RiseP l) (hm : RiseP m) (h : ∀ x, x ∈ l ↔ x ∈ m) : l = m := by
  induction l generalizing m with
  | nil =>
    cases m with
    | nil => rfl
    | cons y ys => exact absurd ((h y).2 (by simp)) (by simp)
  | cons x xs ih =>
    cases m with
    | nil => exact absurd ((h x).1 (by simp)) (by simp)
    | cons y ys =>
      have hx := List.pairwise_cons.1 hl
      have hy := List.pairwise_cons.1 hm
      have irr : ∀ z : Pth, ¬ orderL z z < 0 := fun z hz => by rw [orderL_refl] at hz; omega
      have hxy : x = y := by
        rcases List.mem_cons.1 ((h x).1 (by simp)) with e | e
        · exact e
        · rcases List.mem_cons.1 ((h y).2 (by simp)) with e2 | e2
          · exact e2.symm
          · have := orderL_anti (hy.1 x e); have := hx.1 y e2; omega
      subst hxy
      congr 1
      refine ih hx.2 hy.2 fun z => ⟨fun hz => ?_, fun hz => ?_⟩
      · rcases List.mem_cons.1 ((h z).1 (by simp [hz])) with e | e
        · subst e; exact absurd (hx.1 z hz) (irr z)
        · exact e
      · rcases List.mem_cons.1 ((h z).2 (by simp [hz])) with e | e
        · subst e; exact absurd (hy.1 z hz) (irr z)
        · exact e
theorem mergeL_mem (a b : List Ent) (p : List UInt8) : p ∈ mergeL a b ↔ (∃ e ∈ a, e.path = p) ∨ (∃ e ∈ b, e.path = p) := by
  fun_induction mergeL a b with
  | case1 b => simp
  | case2 x a => simp [eq_comm]
  | case3 x a y b h ih => rw [List.mem_cons, ih]; simp only [List.mem_cons, exists_eq_or_imp]; grind
  | case4 x a y b h h0 ih =>
    have := parts_same (orderL_eq h0)
    rw [List.mem_cons, ih]; simp only [List.mem_cons, exists_eq_or_imp]; grind
  | case5 x a y b h h0 ih => rw [List.mem_cons, ih]; simp only [List.mem_cons, exists_eq_or_imp]; grind
theorem mergeL_rise (a b : List Ent) (ha : RiseE a) (hb : RiseE b) : RiseP ((mergeL a b).map partsB) := by
  fun_induction mergeL a b with
  | case1 b => rw [List.map_map]; exact List.pairwise_map.2 hb
  | case2 x a => rw [List.map_map]; exact List.pairwise_map.2 ha
  | case3 x a y b h ih =>
    have ha' := List.pairwise_cons.1 ha
    have hb' := List.pairwise_cons.1 hb
    rw [List.map_cons]
    refine List.pairwise_cons.2 ⟨fun q hq => ?_, ih ha'.2 hb⟩
    obtain ⟨p, hp, rfl⟩ := List.mem_map.1 hq
    rcases (mergeL_mem _ _ _).1 hp with ⟨e, he, rfl⟩ | ⟨e, he, rfl⟩
    · exact ha'.1 e he
    · rcases List.mem_cons.1 he with rfl | he
      · exact h
      · exact orderL_trans h (hb'.1 e he)
  | case4 x a y b h h0 ih =>
    have ha' := List.pairwise_cons.1 ha
    have hb' := List.pairwise_cons.1 hb
    rw [List.map_cons]
    refine List.pairwise_cons.2 ⟨fun q hq => ?_, ih ha'.2 hb'.2⟩
    obtain ⟨p, hp, rfl⟩ := List.mem_map.1 hq
    rcases (mergeL_mem _ _ _).1 hp with ⟨e, he, rfl⟩ | ⟨e, he, rfl⟩
    · exact ha'.1 e he
    · rw [orderL_eq h0]; exact hb'.1 e he
  | case5 x a y b h h0 ih =>
    have ha' := List.pairwise_cons.1 ha
    have hb' := List.pairwise_cons.1 hb
    have hyx : orderL (partsB y.path) (partsB x.path) < 0 := orderL_neg (by omega)
    rw [List.map_cons]
    refine List.pairwise_cons.2 ⟨fun q hq => ?_, ih ha hb'.2⟩
    obtain ⟨p, hp, rfl⟩ := List.mem_map.1 hq
    rcases (mergeL_mem _ _ _).1 hp with ⟨e, he, rfl⟩ | ⟨e, he, rfl⟩
    · rcases List.mem_cons.1 he with rfl | he
      · exact hyx
      · exact orderL_trans hyx (ha'.1 e he)
    · exact hb'.1 e he
/-- all paths below a path, of a walk through both -/
noncomputable def walkP (H : Forest) : Nat → Pth → List Pth
  | 0, _ => []
  | d + 1, p => (namesF H p).flatMap fun k => (p ++ [k]) :: walkP H d (p ++ [k])
/-- the paths of a forest: in depth and number -/
structure Deep (H : Forest) : Prop where
  len : ∀ p, (H p).isSome = true → p.length ≤ 12
  names : ∀ p, ∃ ks, Rise ks ∧ ∀ x, x ∈ ks ↔ (H (p ++ [x])).isSome = true
  pre : ∀ p k, (H (p ++ [k])).isSome = true → (H p).isSome = true
theorem Deep.mem_names {H : Forest} (h : Deep H) (p : Pth) (x : List UInt8) : x ∈ namesF H p ↔ (H (p ++ [x])).isSome = true := by
  obtain ⟨ks, h1, h2⟩ := h.names p
  rw [namesF_of h1 h2]; exact h2 x
theorem Deep.rise_names {H : Forest} (h : Deep H) (p : Pth) : Rise (namesF H p) := by
  obtain ⟨ks, h1, h2⟩ := h.names p
  rw [namesF_of h1 h2]; exact h1
theorem Deep.pres {H : Forest} (h : Deep H) (p r : Pth) (hr : (H (p ++ r)).isSome = true) : (H p).isSome = true := by
  suffices hh : ∀ n (r : Pth), r.length = n → (H (p ++ r)).isSome = true → (H p).isSome = true from hh _ r rfl hr
  intro n
  induction n with
  | zero => intro r hl hr; rw [List.eq_nil_of_length_eq_zero hl, List.append_nil] at hr; exact hr
  | succ n ih =>
    intro r hl hr
    rcases nil_or_snoc r with rfl | ⟨a, b, rfl⟩
    · simp at hl
    · rw [← List.append_assoc] at hr
      exact ih a (by simpa using hl) (h.pre _ _ hr)
theorem walkP_mem {H : Forest} (h : Deep H) : ∀ (d : Nat) (p : Pth), p.length + d = 13 → ∀ q, q ∈ walkP H d p ↔ ∃ r, r ≠ [] ∧ q = p ++ r ∧ (H q).isSome = true := by
  intro d
  induction d with
  | zero =>
    intro p hp q
    constructor
    · intro hq; simp [walkP] at hq
    · rintro ⟨r, _, rfl, hq⟩
      have := h.len _ hq
      rw [List.length_append] at this; omega
  | succ d ih =>
    intro p hp q
    rw [walkP, List.mem_flatMap]
    constructor
    · rintro ⟨k, hk, hq⟩
      rcases List.mem_cons.1 hq with rfl | hq
      · exact ⟨[k], by simp, rfl, (h.mem_names p k).1 hk⟩
      · obtain ⟨r, _, rfl, h2⟩ := (ih (p ++ [k]) (by simp; omega) q).1 hq
        exact ⟨k :: r, by simp, by simp, h2⟩
    · rintro ⟨r, hr, rfl, h2⟩
      cases r with
      | nil => exact absurd rfl hr
      | cons k r =>
        have e1 : p ++ k :: r = p ++ [k] ++ r := by simp
        rw [e1] at h2 ⊢
        refine ⟨k, (h.mem_names p k).2 (h.pres _ r h2), List.mem_cons.2 ?_⟩
        by_cases hr2 : r = []
        · subst hr2; rw [List.append_nil]; exact .inl rfl
        · exact .inr ((ih (p ++ [k]) (by simp; omega) _).2 ⟨r, hr2, rfl, h2⟩)
theorem walkP_rise {H : Forest} (h : Deep H) : ∀ (d : Nat) (p : Pth), p.length + d = 13 → RiseP (walkP H d p) := by
  intro d
  induction d with
  | zero => intro p _; exact List.Pairwise.nil
  | succ d ih =>
    intro p hp
    have hin : ∀ k, ∀ q ∈ (p ++ [k]) :: walkP H d (p ++ [k]), ∃ r, q = p ++ k :: r := by
      intro k q hq
      rcases List.mem_cons.1 hq with rfl | hq
      · exact ⟨[], rfl⟩
      · obtain ⟨r, _, rfl, _⟩ := (walkP_mem h d (p ++ [k]) (by simp; omega) q).1 hq
        exact ⟨r, by simp⟩
    rw [walkP]
    refine List.pairwise_flatMap.2 ⟨fun k hk => List.pairwise_cons.2 ⟨fun q hq => ?_, ih _ (by simp; omega)⟩, (h.rise_names p).imp_of_mem fun {k1 k2} hk1 hk2 hlt q1 hq1 q2 hq2 => ?_⟩
    · obtain ⟨r, hr, rfl, _⟩ := (walkP_mem h d (p ++ [k]) (by simp; omega) q).1 hq
      exact orderL_longer _ _ hr
    · obtain ⟨r1, rfl⟩ := hin k1 q1 hq1
      obtain ⟨r2, rfl⟩ := hin k2 q2 hq2
      rw [orderL_app, orderL, if_pos hlt]; omega
theorem Lists.deep {l : List Ent} {F : Forest} (h : Lists l F) (hT : IsTree F) : Deep F :=
  ⟨fun p hp => by obtain ⟨x, hx⟩ := Option.isSome_iff_exists.1 hp; exact (h.elems hx).2.2, h.names, fun p k hk => by obtain ⟨x, hx, _⟩ := hT.up p k hk; rw [hx]; rfl⟩
theorem deep_or {F G : Forest} (h : Deep F) (k : Deep G) : Deep (orF F G) := by
  refine ⟨fun p hp => (orF_some.1 hp).elim (h.len p) (k.len p), fun p => ?_, fun p x hx => orF_some.2 ((orF_some.1 hx).imp (h.pre p x) (k.pre p x))⟩
  obtain ⟨ks, h1, h2⟩ := rise_of (namesF F p ++ namesF G p)
  refine ⟨ks, h1, fun x => ?_⟩
  rw [h2, List.mem_append, h.mem_names, k.mem_names, orF_some]
/-- all paths of two trees: the document's are a walk's -/
theorem merge_walk {a b : List Ent} {F G : Forest} (ha : Lists a F) (hb : Lists b G) (hF : IsTree F) (hG : IsTree G) : (mergeL a b).map partsB = walkP (orF F G) 13 [] := by
  have hd := deep_or (ha.deep hF) (hb.deep hG)
  refine riseP_unique (mergeL_rise a b ha.rise hb.rise) (walkP_rise hd 13 [] rfl) fun q => ?_
  rw [walkP_mem hd 13 [] rfl, List.mem_map]
  have key : ∀ {l : List Ent} {F : Forest}, Lists l F → ∀ q : Pth, q ≠ [] → ((∃ e ∈ l, partsB e.path = q) ↔ (F q).isSome = true) := by
    intro l F h q hq
    constructor
    · rintro ⟨e, he, rfl⟩; rw [h.mem e he]; rfl
    · intro hs
      obtain ⟨x, hx⟩ := Option.isSome_iff_exists.1 hs
      rcases h.only q x hx with e | ⟨e, he, h2, _⟩
      · exact absurd e hq
      · exact ⟨e, he, h2⟩
  constructor
  · rintro ⟨p, hp, rfl⟩
    have hne : partsB p ≠ [] := by
      rcases (mergeL_mem _ _ _).1 hp with ⟨e, he, rfl⟩ | ⟨e, he, rfl⟩
      · exact partsB_ne (ha.each e he).2.1
      · exact partsB_ne (hb.each e he).2.1
    refine ⟨partsB p, hne, rfl, orF_some.2 ?_⟩
    rcases (mergeL_mem _ _ _).1 hp with ⟨e, he, rfl⟩ | ⟨e, he, rfl⟩
    · exact .inl ((key ha _ hne).1 ⟨e, he, rfl⟩)
    · exact .inr ((key hb _ hne).1 ⟨e, he, rfl⟩)
  · rintro ⟨r, hr, rfl, hs⟩
    rcases orF_some.1 hs with hs | hs
    · obtain ⟨e, he, h2⟩ := (key ha _ hr).2 hs
      exact ⟨e.path, (mergeL_mem _ _ _).2 (.inl ⟨e, he, rfl⟩), h2⟩
    · obtain ⟨e, he, h2⟩ := (key hb _ hr).2 hs
      exact ⟨e.path, (mergeL_mem _ _ _).2 (.inr ⟨e, he, rfl⟩), h2⟩
theorem emit_len (a b : List Ent) (p : List UInt8) : (emitL a b p).length ≤ 3 := by
  have h1 : (emit1 a b p).length ≤ 1 := by unfold emit1; split <;> (try split) <;> simp
  have h2 : (emit2 a b p).length ≤ 1 := by unfold emit2; split <;> simp
  have h3 : (emit3 a b p).length ≤ 1 := by unfold emit3; split <;> simp
  unfold emitL
  simp only [List.length_append]; omega
theorem merge_len (a b : List Ent) : (mergeL a b).length ≤ a.length + b.length := by
  fun_induction mergeL a b with
  | case1 b => simp
  | case2 x a => simp
  | case3 x a y b h ih => simp only [List.length_cons] at *; omega
  | case4 x a y b h h0 ih => simp only [List.length_cons] at *; omega
  | case5 x a y b h h0 ih => simp only [List.length_cons] at *; omega
theorem emits_len (a b : List Ent) (l : List (List UInt8)) : (l.flatMap (emitL a b)).length ≤ 3 * l.length := by
  induction l with
  | nil => simp
  | cons p r ih => rw [List.flatMap_cons, List.length_append, List.length_cons]; have := emit_len a b p; omega
theorem diff_len (a b : List Ent) : (diffL a b).length ≤ 3 * (a.length + b.length + 1) := by
  have h := emits_len a b ([] :: mergeL a b)
  have := merge_len a b
  unfold diffL
  rw [List.length_cons] at h; omega
end Go.Proofs.YtpkabccinhfmbaaGreatDoor
namespace Go.Proofs.YtpkabccinhfmbaaGreatDoor

theorem Lists.back {l : List Ent} {F : Forest} (h : Lists l F) {q : Pth} {x : Nd} (hx : F q = some x) : partsB (joinB q) = q := parts_join2 fun e he => by
  have := elementB_ok ((h.elems hx).1 e he); exact ⟨this.1, this.2.2⟩
theorem Lists.kinds {l : List Ent} {F : Forest} (h : Lists l F) {q : Pth} {x : Nd} (hx : F q = some x) : x.kind ≠ 0 := by
  rcases h.only q x hx with rfl | ⟨e, he, rfl, rfl⟩
  · rw [h.root] at hx; rw [← Option.some.inj hx]; decide
  · have := goodB_kind (h.each e he).2.2
    show e.kind ≠ 0; omega
theorem findL_of {l : List Ent} {F : Forest} (h : Lists l F) {q : Pth} (hq : q ≠ []) (hb : partsB (joinB q) = q) : findL l (joinB q) = (F q).map fun x => ⟨joinB q, x.kind, x.mode, x.data⟩ := by
  unfold findL
  cases hf : l.find? (fun e => decide (e.path = joinB q)) with
  | some e =>
    have h1 := List.find?_some hf
    have h2 := List.mem_of_find?_eq_some hf
    have h3 : e.path = joinB q := by simpa using h1
    have h4 := h.mem e h2
    rw [h3, hb] at h4
    rw [h4]
    obtain ⟨p, k, m, d⟩ := e
    simp only at h3
    subst h3; rfl
  | none =>
    cases hF : F q with
    | none => rfl
    | some x =>
      rcases h.only _ x hF with h1 | ⟨e, he, h1, _⟩
      · exact absurd h1 hq
      · have := List.find?_eq_none.1 hf e he
        rw [← h1, joinB_parts] at this; simp at this
theorem findL_root {l : List Ent} {F : Forest} (h : Lists l F) : findL l [] = none := by
  unfold findL
  rw [List.find?_eq_none]
  intro e he
  have := (h.each e he).2.1
  simpa using this
/-- what is in a directory -/
theorem children_names {l : List Ent} {F : Forest} (h : Lists l F) {p : Pth} (hb : partsB (joinB p) = p) : (childrenL l (joinB p)).map (fun c => (upB c.path).2) = namesF F p ∧ ∀ c ∈ childrenL l (joinB p), partsB c.path = p ++ [(upB c.path).2] := by
  have hup : ∀ c ∈ childrenL l (joinB p), partsB c.path = p ++ [(upB c.path).2] := by
    intro c hc
    obtain ⟨h1, h2⟩ := List.mem_filter.1 hc
    obtain ⟨hp, hne, _⟩ := h.each c h1
    have e1 := upB_parts hp
    rw [show (upB c.path).1 = joinB p by simpa using h2, hb] at e1
    have := (parts_last hp hne).1
    rw [← e1] at this; exact this
  refine ⟨(namesF_of ?_ fun x => ?_).symm, hup⟩
  · refine List.pairwise_map.2 ((h.rise.sublist List.filter_sublist).imp_of_mem fun {c1 c2} h1 h2 hlt => ?_)
    have hlt2 : orderL (partsB c1.path) (partsB c2.path) < 0 := hlt
    rw [hup c1 h1, hup c2 h2, orderL_app, orderL] at hlt2
    by_cases hx : (upB c1.path).2 < (upB c2.path).2
    · exact hx
    · rw [if_neg hx] at hlt2
      by_cases hy : (upB c2.path).2 < (upB c1.path).2
      · rw [if_pos hy] at hlt2; omega
      · rw [if_neg hy, orderL_refl] at hlt2; omega
  · rw [List.mem_map]
    constructor
    · rintro ⟨c, hc, rfl⟩
      rw [← hup c hc, h.mem c (List.mem_filter.1 hc).1]; rfl
    · intro hx
      obtain ⟨y, hy⟩ := Option.isSome_iff_exists.1 hx
      rcases h.only _ y hy with e | ⟨e, he, h1, _⟩
      · simp at e
      · obtain ⟨hp, hne, _⟩ := h.each e he
        have e1 := upB_parts hp
        have e2 := (parts_last hp hne).1
        rw [h1, List.dropLast_concat] at e1 e2
        have e3 := (List.append_inj' e2 rfl).2
        refine ⟨e, List.mem_filter.2 ⟨he, ?_⟩, by simpa using e3.symm⟩
        rw [decide_eq_true_eq, ← e1, joinB_parts]
theorem cleared_lost {a b : List Ent} {F G : Forest} (ha : Lists a F) (hb : Lists b G) {p : Pth} (hp : partsB (joinB p) = p) : clearedL a b (joinB p) = (isDirF F p && isDirF G p && lostB F G p) := by
  obtain ⟨h1, h2⟩ := children_names ha hp
  have hd : ∀ {l : List Ent} {F : Forest}, Lists l F → decide (kindL l (joinB p) = 1) = isDirF F p := fun h => by rw [kind_same h _ (Classical.em _), hp]
  have hall : (childrenL a (joinB p)).all (fun c => decide (kindL b c.path = 0)) = (namesF F p).all (fun k => (G (p ++ [k])).isNone) := by
    rw [← h1, List.all_map]
    rw [Bool.eq_iff_iff, List.all_eq_true, List.all_eq_true]
    refine forall_congr' fun c => forall_congr' fun hc => ?_
    rw [← Bool.eq_iff_iff, kindF_same hb, h2 c hc, kindF]
    show _ = (G (p ++ [(upB c.path).2])).isNone
    cases hG : G (p ++ [(upB c.path).2]) with
    | none => simp
    | some x => simpa using hb.kinds hG
  have hlen : (childrenL a (joinB p)).length = (namesF F p).length := by rw [← h1, List.length_map]
  unfold clearedL lostB
  rw [hd ha, hd hb, hall, hlen]
  cases isDirF F p <;> cases isDirF G p <;> simp
/-- what the document writes at a path below a directory of the second -/
theorem emit_step {a b : List Ent} {F G : Forest} (ha : Lists a F) (hb : Lists b G) (hF : IsTree F) (p : Pth) (k : List UInt8) (hp : partsB (joinB p) = p) (hk : partsB (joinB (p ++ [k])) = p ++ [k]) (hu : (upB (joinB (p ++ [k]))).1 = joinB p)
    (hd : isDirF G p = true) (hs : (orF F G (p ++ [k])).isSome = true) :
    emitL a b (joinB (p ++ [k])) = stepE F G p k ++ (if isDirF G (p ++ [k]) = true ∧ lostB F G (p ++ [k]) = true then [⟨joinB (p ++ [k]), 5, 0, []⟩] else []) := by
  have hne : p ++ [k] ≠ [] := by simp
  have hA := findL_of ha hne hk
  have hB := findL_of hb hne hk
  have hfd : (F (p ++ [k])).isSome = true → isDirF F p = true := fun h => by
    obtain ⟨x, hx, h1⟩ := hF.up p k h
    exact isDirF_iff.2 ⟨x, hx, h1⟩
  have hlost : lostB F G (p ++ [k]) = true → isDirF F (p ++ [k]) = true := by
    intro h
    unfold lostB at h
    simp only [Bool.and_eq_true, decide_eq_true_eq] at h
    cases hn : namesF F (p ++ [k]) with
    | nil => rw [hn] at h; simp at h
    | cons y r =>
      have : (F (p ++ [k] ++ [y])).isSome = true := by
        obtain ⟨ks, g1, g2⟩ := ha.names (p ++ [k])
        rw [namesF_of g1 g2] at hn
        exact (g2 y).1 (by rw [hn]; simp)
      obtain ⟨x, hx, h1⟩ := hF.up _ _ this
      exact isDirF_iff.2 ⟨x, hx, h1⟩
  have hkd : kindL b (upB (joinB (p ++ [k]))).1 = 1 := by
    have := kind_same hb (upB (joinB (p ++ [k]))).1 (Classical.em _)
    rw [hu, hp, hd] at this
    rw [hu]; simpa using this
  unfold emitL emit1 emit2 emit3 stepE
  rw [cleared_lost ha hb hk, hkd, hu, cleared_lost ha hb hp, hd, hA, hB]
  cases hG : G (p ++ [k]) with
  | none =>
    have hFs : (F (p ++ [k])).isSome = true := by
      rcases orF_some.1 hs with h | h
      · exact h
      · rw [hG] at h; cases h
    have hdn : isDirF G (p ++ [k]) = false := isDirF_none hG
    rw [hdn, hfd hFs]
    simp only [Option.map_none, Option.isSome_map, hFs]
    cases lostB F G p <;> simp
  | some x =>
    have e1 : (Option.map (fun x : Nd => (⟨joinB (p ++ [k]), x.kind, x.mode, x.data⟩ : Ent)) (F (p ++ [k])) = some ⟨joinB (p ++ [k]), x.kind, x.mode, x.data⟩) ↔ F (p ++ [k]) = some x := by
      cases F (p ++ [k]) with
      | none => simp
      | some y =>
        obtain ⟨y1, y2, y3⟩ := y
        obtain ⟨x1, x2, x3⟩ := x
        simp
    have e2 : ((isDirF F (p ++ [k]) && isDirF G (p ++ [k]) && lostB F G (p ++ [k])) = true) ↔ (isDirF G (p ++ [k]) = true ∧ lostB F G (p ++ [k]) = true) := by
      simp only [Bool.and_eq_true]
      exact ⟨fun h => ⟨h.1.2, h.2⟩, fun h => ⟨⟨hlost h.2, h.1⟩, h.2⟩⟩
    simp only [Option.map_some, e1, e2, Option.isSome_some]
    simp
/-- nothing is written below what is no directory of the second -/
theorem emit_below {a b : List Ent} {F G : Forest} (ha : Lists a F) (hb : Lists b G) (hG : IsTree G) (p r : Pth) (hr : r ≠ []) (hq : partsB (joinB (p ++ r)) = p ++ r) (hu : partsB (upB (joinB (p ++ r))).1 = (p ++ r).dropLast)
    (hd : isDirF G p = false) : emitL a b (joinB (p ++ r)) = [] := by
  have hne : p ++ r ≠ [] := by simp [hr]
  have hpar : isDirF G (p ++ r).dropLast = false := by
    rcases nil_or_snoc r with rfl | ⟨s, e, rfl⟩
    · exact absurd rfl hr
    · rw [← List.append_assoc, List.dropLast_concat]
      cases hs : isDirF G (p ++ s) with
      | false => rfl
      | true =>
        obtain ⟨x, hx, hk⟩ := isDirF_iff.1 hs
        cases s with
        | nil => rw [List.append_nil] at hs; rw [hs] at hd; cases hd
        | cons y s =>
          have e1 : p ++ y :: s = p ++ [y] ++ s := by simp
          have h2 : (G (p ++ [y])).isSome = true := by
            cases hG2 : G (p ++ [y]) with
            | some _ => rfl
            | none => rw [e1, hG.pre _ _ hG2] at hx; cases hx
          obtain ⟨z, hz, hzk⟩ := hG.up p y h2
          rw [isDirF_iff.2 ⟨z, hz, hzk⟩] at hd; cases hd
  have hGn : G (p ++ r) = none := by
    cases hG2 : G (p ++ r) with
    | none => rfl
    | some x =>
      rcases nil_or_snoc (p ++ r) with e | ⟨s, e, h3⟩
      · exact absurd e hne
      · rw [h3] at hG2 hpar
        obtain ⟨z, hz, hzk⟩ := hG.up s e (by rw [hG2]; rfl)
        rw [List.dropLast_concat, isDirF_iff.2 ⟨z, hz, hzk⟩] at hpar; cases hpar
  have hkd : kindL b (upB (joinB (p ++ r))).1 ≠ 1 := by
    have := kind_same hb (upB (joinB (p ++ r))).1 (Classical.em _)
    rw [hu, hpar] at this
    simpa using this
  unfold emitL emit1 emit2 emit3
  rw [findL_of hb hne hq, hGn, cleared_lost ha hb hq, isDirF_none hGn]
  simp [hkd]
theorem diff_walk {a b : List Ent} {F G : Forest} (ha : Lists a F) (hb : Lists b G) (hF : IsTree F) (hG : IsTree G) : ∀ (d : Nat) (p : Pth), p.length + d = 13 → isDirF G p = true →
    diffGo F G d p = if 0 < d then (if lostB F G p = true then [⟨joinB p, 5, 0, []⟩] else []) ++ (walkP (orF F G) d p).flatMap (fun q => emitL a b (joinB q)) else [] := by
  have hd := deep_or (ha.deep hF) (hb.deep hG)
  have hback : ∀ q, (orF F G q).isSome = true → partsB (joinB q) = q := by
    intro q hq
    rcases orF_some.1 hq with h | h
    · obtain ⟨x, hx⟩ := Option.isSome_iff_exists.1 h; exact ha.back hx
    · obtain ⟨x, hx⟩ := Option.isSome_iff_exists.1 h; exact hb.back hx
  have hpath : ∀ q, q ≠ [] → (orF F G q).isSome = true → partsB (upB (joinB q)).1 = q.dropLast := by
    intro q hne hq
    have key : ∀ {l : List Ent} {F : Forest}, Lists l F → (F q).isSome = true → pathB (joinB q) = true := by
      intro l F h hs
      obtain ⟨x, hx⟩ := Option.isSome_iff_exists.1 hs
      rcases h.only q x hx with e | ⟨e, he, h1, _⟩
      · exact absurd e hne
      · rw [← h1, joinB_parts]; exact (h.each e he).1
    have hpb : pathB (joinB q) = true := (orF_some.1 hq).elim (key ha) (key hb)
    rw [upB_parts hpb, hback q hq]
  intro d
  induction d with
  | zero => intro p _ _; rfl
  | succ d ih =>
    intro p hp hdir
    rw [diffGo, if_pos (Nat.succ_pos d), walkP, List.flatMap_assoc]
    congr 1
    rw [List.flatMap_def, List.flatMap_def]
    congr 1
    refine List.map_congr_left fun k hk => ?_
    have hs := (hd.mem_names p k).1 hk
    have hpp : partsB (joinB p) = p := by
      obtain ⟨x, hx, _⟩ := isDirF_iff.1 hdir
      exact hb.back hx
    have hkk := hback _ hs
    have hu : (upB (joinB (p ++ [k]))).1 = joinB p := by
      have := hpath _ (by simp) hs
      rw [List.dropLast_concat] at this
      rw [← joinB_parts (upB (joinB (p ++ [k]))).1, this]
    rw [List.flatMap_cons, emit_step ha hb hF p k hpp hkk hu hdir hs, List.append_assoc]
    congr 1
    cases hdk : isDirF G (p ++ [k]) with
    | true =>
      have hlen := hd.len _ hs
      rw [if_pos rfl, ih (p ++ [k]) (by simp; omega) hdk, if_pos (by simp only [List.length_append, List.length_singleton] at hlen; omega)]
      simp
    | false =>
      rw [if_neg (by decide), if_neg (fun h => by cases h.1)]
      symm
      rw [List.nil_append, List.flatMap_eq_nil_iff]
      intro q hq
      obtain ⟨r, hr, rfl, hqs⟩ := (walkP_mem hd d (p ++ [k]) (by simp; omega) q).1 hq
      exact emit_below ha hb hG (p ++ [k]) r hr (hback _ hqs) (hpath _ (by simp) hqs) hdk
/-- the document's list is the program's -/
theorem diff_same {a b : List Ent} {F G : Forest} (ha : Lists a F) (hb : Lists b G) (hF : IsTree F) (hG : IsTree G) : diffL a b = diffGo F G 13 [] := by
  obtain ⟨x, hx, hk⟩ := hG.root
  have hdir := isDirF_iff.2 ⟨x, hx, hk⟩
  obtain ⟨y, hy, hk2⟩ := hF.root
  rw [diff_walk ha hb hF hG 13 [] rfl hdir, if_pos (by decide)]
  unfold diffL
  rw [List.flatMap_cons]
  congr 1
  · have hc := cleared_lost ha hb (p := []) rfl
    rw [show joinB ([] : Pth) = [] from rfl, hdir, isDirF_iff.2 ⟨y, hy, hk2⟩] at hc
    unfold emitL emit1 emit2 emit3
    rw [findL_root hb, findL_root ha, hc]
    simp [joinB]
  · rw [← merge_walk ha hb hF hG, List.flatMap_map]
    simp only [joinB_parts]
end Go.Proofs.YtpkabccinhfmbaaGreatDoor
