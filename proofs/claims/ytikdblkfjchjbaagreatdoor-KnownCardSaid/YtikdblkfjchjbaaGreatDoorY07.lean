import Derived.Test.YtikdblkfjchjbaaGreatDoorY02
import Derived.Test.YtikdblkfjchjbaaGreatDoorY03
import Derived.Test.YtikdblkfjchjbaaGreatDoorY06
set_option linter.unusedVariables false
set_option linter.unusedSimpArgs false
set_option maxHeartbeats 16000000
set_option maxRecDepth 100000
namespace Go.Proofs.YtikdblkfjchjbaaGreatDoor
open Go Go.RowKit Go.Shelf
attribute [local go_sem] Oper.semAt_some
theorem quc (k : Nat) : Fence.wide.room k := fun d h => by cases h
theorem YieldAt.wide {m m' : Nat} {P : Program} {l : Nat} {args : Array Value} {W : World} {R : Ending → World → Prop} (h : YieldAt Fence.wide m P l args W R) : YieldAt Fence.wide m' P l args W R := by
 obtain ⟨fn, tmps, assign, body, hy, hR⟩ := h;exact ⟨fn, tmps, assign, body, hy, hR.1, fun c cs _ => hR.2 c cs (quc _)⟩
def qsm (X : Nat → Prop) (a m : Pth → Nat) (F : qaf) : Prop := ∀ p x, F p = some x → X (a p) ∧ (x.kind = 1 → X (m p))
theorem TreeAt.stayX {w w' : World} {B N : Nat} {a m : Pth → Nat} {F : qaf} {X : Nat → Prop} (h : TreeAt w B N a m F) (hX : qsm X a m F) (hs : ∀ k, X k → w'.heap[k]? = w.heap[k]?) : TreeAt w' B N a m F :=
 ⟨h.tree, fun p x hx => (hs _ (hX p x hx).1).trans (h.node p x hx), fun p x hx hk => (h.dir p x hx hk).block (hs _ ((hX p x hx).2 hk)), h.base, h.inj, h.injm⟩
theorem qap {w w' : World} {k o : Nat} {v : Value} (h : w.cell? ⟨k, o, none⟩ = some v) (hs : w'.heap[k]? = w.heap[k]?) : w'.cell? ⟨k, o, none⟩ = some v := by
 rw [← h]; exact World.cell?_of_block hs
def qfk (F : qaf) (p : Pth) : Ent := match F p with | some x => ⟨qae p, x.kind, x.mode, x.data⟩ | none => ⟨qae p, 0, 0, []⟩
theorem qfs {F : qaf} {p : Pth} {x : Nd} (h : F p = some x) : qfk F p = ⟨qae p, x.kind, x.mode, x.data⟩ := by unfold qfk; rw [h]
inductive WalkL (F : qaf) : Pth → List Ent → Prop
 | mk (p : Pth) (ks : List (List UInt8)) (Ls : List UInt8 → List Ent) : Rise ks → (∀ x, x ∈ ks ↔ (F (p ++ [x])).isSome = true) → (∀ x ∈ ks, WalkL F (p ++ [x]) (Ls x)) → WalkL F p (ks.flatMap fun k => qfk F (p ++ [k]) :: Ls k)
theorem qv5 {a b : List UInt8} (h : a < b) (k : b < a) : False := List.lt_irrefl a (List.lt_trans h k)
theorem qk7 {l m : List (List UInt8)} (hl : Rise l) (hm : Rise m) (h : ∀ x, x ∈ l ↔ x ∈ m) : l = m := by
 induction l generalizing m with
 | nil =>
  cases m with
  | nil => rfl
  | cons y ys => exact absurd ((h y).2 (by simp)) (by simp)
 | cons x xs ih =>
  cases m with
  | nil => exact absurd ((h x).1 (by simp)) (by simp)
  | cons y ys =>
   have hx := List.pairwise_cons.1 hl;have hy := List.pairwise_cons.1 hm;have hxy : x = y := by
    rcases List.mem_cons.1 ((h x).1 (by simp)) with e | e
    ·exact e
    ·rcases List.mem_cons.1 ((h y).2 (by simp)) with e2 | e2
     ·exact e2.symm
     ·exact (qv5 (hy.1 x e) (hx.1 y e2)).elim
   subst hxy;congr 1
   refine ih hx.2 hy.2 fun z => ⟨fun hz => ?_, fun hz => ?_⟩
   ·rcases List.mem_cons.1 ((h z).1 (by simp [hz])) with e | e
    ·subst e; exact absurd (hx.1 z hz) (List.lt_irrefl z)
    ·exact e
   ·rcases List.mem_cons.1 ((h z).2 (by simp [hz])) with e | e
    ·subst e; exact absurd (hy.1 z hz) (List.lt_irrefl z)
    ·exact e
structure FineF (F : qaf) : Prop where
 join : ∀ p k, (F (p ++ [k])).isSome = true → inB (qae p) k = qae (p ++ [k])
 len : ∀ p x, F p = some x → (qae p).length ≤ 1000 ∧ p.length ≤ 12
 name : ∀ p k, (F (p ++ [k])).isSome = true → k.length ≤ 1000
def encE (e : Ent) : Array Value := #[.string (S e.path), e.agg]
theorem q39 {a b : Ent} (h1 : qaa a.path = qaa b.path) (h2 : ndOf a = ndOf b) : a = b := by
 obtain ⟨p, k, m, d⟩ := a;obtain ⟨p', k', m', d'⟩ := b;have h3 := qen h1;simp only at h3;simp only [ndOf, Nd.mk.injEq] at h2;obtain ⟨rfl, rfl, rfl⟩ := h2;rw [h3]
theorem qfn (p a b : List (List UInt8)) : qal (p ++ a) (p ++ b) = qal a b := by
 induction p with
 | nil => rfl
 | cons x xs ih => rw [List.cons_append, List.cons_append, qal, if_neg (List.lt_irrefl x), if_neg (List.lt_irrefl x)]; exact ih
theorem qfy (p r : List (List UInt8)) (h : r ≠ []) : qal p (p ++ r) < 0 := by
 have := qfn p [] r;rw [List.append_nil] at this;rw [this];cases r with
 | nil => exact absurd rfl h
 | cons x xs => simp only [qal, List.length_nil, List.length_cons]; omega
theorem qm2 {a b : List (List UInt8)} (h : 0 < qal a b) : qal b a < 0 := by
 induction a generalizing b with
 | nil =>
  cases b with
  | nil => simp [qal] at h
  | cons y ys => simp only [qal, List.length_nil, List.length_cons] at h; omega
 | cons x xs ih =>
  cases b with
  | nil => simp only [qal, List.length_nil, List.length_cons]; omega
  | cons y ys =>
   rw [qal] at h ⊢;by_cases hxy : x < y
   ·rw [if_pos hxy] at h; omega
   ·rw [if_neg hxy] at h
    by_cases hyx : y < x
    ·rw [if_pos hyx]; omega
    ·rw [if_neg hyx] at h
     rw [if_neg hyx, if_neg hxy]; exact ih h
abbrev qqo (l : List Ent) : Prop := l.Pairwise fun a b => qal (qaa a.path) (qaa b.path) < 0
theorem qo2 {l m : List Ent} (hl : qqo l) (hm : qqo m) (h : ∀ x, x ∈ l ↔ x ∈ m) : l = m := by
 induction l generalizing m with
 | nil =>
  cases m with
  | nil => rfl
  | cons y ys => exact absurd ((h y).2 (by simp)) (by simp)
 | cons x xs ih =>
  cases m with
  | nil => exact absurd ((h x).1 (by simp)) (by simp)
  | cons y ys =>
   have hx := List.pairwise_cons.1 hl;have hy := List.pairwise_cons.1 hm;have irr : ∀ z : Ent, ¬ qal (qaa z.path) (qaa z.path) < 0 := fun z hz => by rw [qck] at hz; omega
   have hxy : x = y := by
    rcases List.mem_cons.1 ((h x).1 (by simp)) with e | e
    ·exact e
    ·rcases List.mem_cons.1 ((h y).2 (by simp)) with e2 | e2
     ·exact e2.symm
     ·have := qh5 (hy.1 x e); have := hx.1 y e2; omega
   subst hxy;congr 1
   refine ih hx.2 hy.2 fun z => ⟨fun hz => ?_, fun hz => ?_⟩
   ·rcases List.mem_cons.1 ((h z).1 (by simp [hz])) with e | e
    ·subst e; exact absurd (hx.1 z hz) (irr z)
    ·exact e
   ·rcases List.mem_cons.1 ((h z).2 (by simp [hz])) with e | e
    ·subst e; exact absurd (hy.1 z hz) (irr z)
    ·exact e
theorem Lists.uniqF {l : List Ent} {F G : qaf} (h : Lists l F) (k : Lists l G) : F = G := by
 have half : ∀ {F G : qaf}, Lists l F → Lists l G → ∀ p x, F p = some x → G p = some x := by
  intro F G h k p x hx;rcases h.only p x hx with rfl | ⟨e, he, rfl, rfl⟩
  ·rw [h.root] at hx; obtain rfl := Option.some.inj hx; exact k.root
  ·exact k.mem e he
 funext p
 cases hF : F p with
 | some x => exact (half h k p x hF).symm
 | none =>
  cases hG : G p with
  | none => rfl
  | some y => rw [half k h p y hG] at hF; cases hF
theorem qg0 {l : List Ent} (he : ∀ e ∈ l, qa3 e.path = true ∧ e.path ≠ [] ∧ qbm e = true) (hr : qqo l) : Lists l (qa0 l) := by
 suffices hh : ∀ n (l : List Ent), l.length = n → (∀ e ∈ l, qa3 e.path = true ∧ e.path ≠ [] ∧ qbm e = true) → qqo l → Lists l (qa0 l) from hh _ l rfl he hr
 intro n;induction n with
 | zero => intro l hl _ _; rw [List.eq_nil_of_length_eq_zero hl]; exact Lists.nil
 | succ n ih =>
  intro l hl he hr;rcases qex l with rfl | ⟨a, b, rfl⟩
  ·simp at hl
  ·have hp := List.pairwise_append.1 hr
   obtain ⟨e1, e2, e3⟩ := he b (by simp);rw [show qa0 (a ++ [b]) = putF (qa0 a) (qaa b.path) (ndOf b) from qlj _ _ _];exact (ih a (by simpa using hl) (fun e h => he e (by simp [h])) hp.1).snoc b e1 e2 e3 (fun e h => hp.2.2 e h b (by simp))
theorem Lists.elems {l : List Ent} {F : qaf} (h : Lists l F) {p : Pth} {x : Nd} (hx : F p = some x) : (∀ e ∈ p, qa5 e = true) ∧ (qae p).length ≤ 170 ∧ p.length ≤ 12 := by
 rcases h.only p x hx with rfl | ⟨e, he, rfl, _⟩
 ·simp [qae]
 ·obtain ⟨hp, _, _⟩ := h.each e he
  obtain ⟨h1, h2⟩ := qa9 hp;refine ⟨h2, by rw [qa1]; exact h1, ?_⟩;unfold qa3 at hp;simp only [Bool.and_eq_true, decide_eq_true_eq] at hp;exact hp.1.2
theorem Lists.fine {l : List Ent} {F : qaf} (h : Lists l F) : FineF F := by
 refine ⟨fun p k hk => ?_, fun p x hx => ?_, fun p k hk => ?_⟩
 ·obtain ⟨x, hx⟩ := Option.isSome_iff_exists.1 hk
  obtain ⟨h1, _, _⟩ := h.elems hx;exact qkg (fun e he => (qba (h1 e (by simp [he]))).1) (qba (h1 k (by simp))).1
 ·obtain ⟨_, h2, h3⟩ := h.elems hx; exact ⟨by omega, h3⟩
 ·obtain ⟨x, hx⟩ := Option.isSome_iff_exists.1 hk
  have := (qba ((h.elems hx).1 k (by simp))).2.1; omega
theorem qw7 (l : List (List UInt8)) : ∃ ks, Rise ks ∧ ∀ x, x ∈ ks ↔ x ∈ l := by
 induction l with
 | nil => exact ⟨[], List.Pairwise.nil, fun x => Iff.rfl⟩
 | cons y r ih =>
  obtain ⟨ks, h1, h2⟩ := ih;by_cases hy : y ∈ ks
  ·refine ⟨ks, h1, fun x => ?_⟩
   rw [List.mem_cons, ← h2 x];exact ⟨.inr, fun h => h.elim (fun e => e ▸ hy) id⟩
  ·refine ⟨srt (y :: ks), qnq (List.nodup_cons.2 ⟨hy, h1.imp (fun {a b} (h : a < b) (e : a = b) => by subst e; exact List.lt_irrefl a h)⟩), fun x => ?_⟩
   rw [qjc, List.mem_cons, List.mem_cons, h2 x]
theorem Lists.names {l : List Ent} {F : qaf} (h : Lists l F) (p : Pth) : ∃ ks, Rise ks ∧ ∀ x, x ∈ ks ↔ (F (p ++ [x])).isSome = true := by
 obtain ⟨ks, h1, h2⟩ := qw7 (l.filterMap fun e => if qaa e.path = p ++ [(qaa e.path).getLastD []] then some ((qaa e.path).getLastD []) else none);refine ⟨ks, h1, fun x => ?_⟩;rw [h2, List.mem_filterMap];constructor
 ·rintro ⟨e, he, hx⟩
  split at hx
  ·rename_i hp
   obtain rfl := Option.some.inj hx;rw [← hp, h.mem e he]; rfl
  ·cases hx
 ·intro hx
  obtain ⟨y, hy⟩ := Option.isSome_iff_exists.1 hx;rcases h.only _ y hy with e1 | ⟨e, he, hp, _⟩
  ·simp at e1
  ·refine ⟨e, he, ?_⟩
   rw [hp, List.getLastD_concat, if_pos rfl]
theorem Lists.walks {l : List Ent} {F : qaf} (h : Lists l F) : ∀ (d : Nat) (p : Pth), p.length + d = 13 → ∃ L, WalkL F p L := by
 intro d;induction d with
 | zero =>
  intro p hp;obtain ⟨ks, h1, h2⟩ := h.names p;refine ⟨_, .mk p ks (fun _ => []) h1 h2 fun x hx => ?_⟩;obtain ⟨y, hy⟩ := Option.isSome_iff_exists.1 ((h2 x).1 hx);have := (h.elems hy).2.2;simp only [List.length_append, List.length_singleton] at this; omega
 | succ d ih =>
  intro p hp;obtain ⟨ks, h1, h2⟩ := h.names p;have hc : ∀ x, ∃ L, WalkL F (p ++ [x]) L := fun x => ih (p ++ [x]) (by simp; omega)
  exact ⟨_, .mk p ks (fun x => Classical.choose (hc x)) h1 h2 fun x _ => Classical.choose_spec (hc x)⟩
theorem WalkL.mem {F : qaf} (hT : IsTree F) {p : Pth} {L : List Ent} (h : WalkL F p L) : ∀ e, e ∈ L ↔ ∃ r x, r ≠ [] ∧ F (p ++ r) = some x ∧ e = qfk F (p ++ r) := by
 induction h with
 | mk p ks Ls hR hmem hLs ih =>
  intro e;rw [List.mem_flatMap];constructor
  ·rintro ⟨k, hk, he⟩
   rcases List.mem_cons.1 he with rfl | he
   ·obtain ⟨y, hy⟩ := Option.isSome_iff_exists.1 ((hmem k).1 hk)
    exact ⟨[k], y, by simp, hy, rfl⟩
   ·obtain ⟨r, x, _, h2, h3⟩ := (ih k hk e).1 he
    refine ⟨k :: r, x, by simp, ?_, ?_⟩
    ·rw [← h2, List.append_assoc]; rfl
    ·rw [h3, List.append_assoc]; rfl
  ·rintro ⟨r, x, h1, h2, h3⟩
   cases r with
   | nil => exact absurd rfl h1
   | cons k r =>
    have e1 : p ++ k :: r = p ++ [k] ++ r := by simp
    rw [e1] at h2 h3;have hk : (F (p ++ [k])).isSome = true := by
     cases hF : F (p ++ [k]) with
     | some _ => rfl
     | none => rw [hT.pre _ _ hF] at h2; cases h2
    refine ⟨k, (hmem k).2 hk, List.mem_cons.2 ?_⟩;by_cases hr : r = []
    ·subst hr; rw [List.append_nil] at h3; exact .inl h3
    ·exact .inr ((ih k ((hmem k).2 hk) e).2 ⟨r, x, hr, h2, h3⟩)
theorem WalkL.rise {F : qaf} (hT : IsTree F) (hP : ∀ q x, F q = some x → qaa (qae q) = q) {p : Pth} {L : List Ent} (h : WalkL F p L) : qqo L := by
 induction h with
 | mk p ks Ls hR hmem hLs ih =>
  have hent : ∀ q x, F q = some x → qaa (qfk F q).path = q := fun q x hx => by rw [qfs hx]; exact hP q x hx
  have hin : ∀ k ∈ ks, ∀ e ∈ qfk F (p ++ [k]) :: Ls k, ∃ r, qaa e.path = p ++ k :: r := by
   intro k hk e he;rcases List.mem_cons.1 he with rfl | he
   ·obtain ⟨y, hy⟩ := Option.isSome_iff_exists.1 ((hmem k).1 hk)
    exact ⟨[], hent _ _ hy⟩
   ·obtain ⟨r, x, _, h2, rfl⟩ := ((hLs k hk).mem hT e).1 he
    exact ⟨r, by rw [hent _ _ h2]; simp⟩
  refine List.pairwise_flatMap.2 ⟨fun k hk => List.pairwise_cons.2 ⟨fun e he => ?_, ih k hk⟩, hR.imp_of_mem fun {k1 k2} hk1 hk2 hlt e1 he1 e2 he2 => ?_⟩
  ·obtain ⟨y, hy⟩ := Option.isSome_iff_exists.1 ((hmem k).1 hk)
   obtain ⟨r, x, hr, h2, rfl⟩ := ((hLs k hk).mem hT e).1 he;rw [hent _ _ hy, hent _ _ h2];exact qfy _ _ hr
  ·obtain ⟨r1, e1⟩ := hin k1 hk1 e1 he1
   obtain ⟨r2, e2⟩ := hin k2 hk2 e2 he2;rw [e1, e2, qfn, qal, if_pos hlt]; omega
theorem Lists.walk {l : List Ent} {F : qaf} (h : Lists l F) (hT : IsTree F) : WalkL F [] l := by
 have hP : ∀ q x, F q = some x → qaa (qae q) = q := fun q x hx => qew fun e he => by
  have := qba ((h.elems hx).1 e he); exact ⟨this.1, this.2.2⟩
 obtain ⟨L, hL⟩ := h.walks 13 [] (by simp);have e : L = l := qo2 (hL.rise hT hP) h.rise fun e => by
  rw [hL.mem hT e];constructor
  ·rintro ⟨r, x, hr, hx, rfl⟩
   rw [List.nil_append] at hx ⊢;rcases h.only r x hx with rfl | ⟨e, he, hp, hn⟩
   ·exact absurd rfl hr
   ·have : qfk F r = e := q39 (by rw [qfs hx, hp]; exact hP r x hx) (by rw [hn, qfs hx]; rfl)
    rw [this]; exact he
  ·intro he
   obtain ⟨_, hne, _⟩ := h.each e he;refine ⟨qaa e.path, ndOf e, qbi hne, h.mem e he, ?_⟩;rw [List.nil_append, qfs (h.mem e he), qa1]; rfl
 rw [← e]; exact hL
theorem Lists.hup {l : List Ent} {F : qaf} (h : Lists l F) (hT : IsTree F) : ∀ pre y rest, l = pre ++ y :: rest → qa3 y.path = true ∧ y.path ≠ [] ∧ qak (qa0 pre) (qaa y.path).dropLast = true := by
 intro pre y rest hl;obtain ⟨h1, h2, h3⟩ := h.each y (by rw [hl]; simp);refine ⟨h1, h2, ?_⟩;have hr := h.rise;rw [hl] at hr;have hr' := List.pairwise_append.1 hr;have hL := qg0 (l := pre) (fun e he => h.each e (by rw [hl]; simp [he])) hr'.1;obtain ⟨e1, _⟩ := qdm h1 h2;generalize (qaa y.path).dropLast = d at *;have hy := h.mem y (by rw [hl]; simp);rw [e1] at hy;obtain ⟨x, hx, hk⟩ := hT.up d _ (by rw [hy]; rfl);rcases h.only d x hx with rfl | ⟨e, he, rfl, rfl⟩
 ·exact qai.2 ⟨_, hL.root, rfl⟩
 ·refine qai.2 ⟨ndOf e, hL.mem e ?_, hk⟩
  rw [hl] at he;have hlt : qal (qaa e.path) (qaa y.path) < 0 := by rw [e1]; exact qfy _ _ (by simp)
  rcases List.mem_append.1 he with he | he
  ·exact he
  ·rcases List.mem_cons.1 he with rfl | he
   ·rw [qck] at hlt; omega
   ·have := qh5 ((List.pairwise_cons.1 hr'.2.1).1 e he); omega
theorem qeq {l : List Ent} {F : qaf} (h : Lists l F) (d : List UInt8) : qbc l d = qmg F (qaa d) := by
 unfold qbc qmg;by_cases h0 : d = []
 ·subst h0
  rw [if_pos rfl, show qaa ([] : List UInt8) = [] from rfl, h.root]
 ·rw [if_neg h0]
  cases hf : l.find? (fun e => decide (e.path = d)) with
  | some e =>
   have h1 := List.find?_some hf;have h2 := List.mem_of_find?_eq_some hf;have h3 : e.path = d := by simpa using h1
   rw [← h3, h.mem e h2]; rfl
  | none =>
   cases hF : F (qaa d) with
   | none => rfl
   | some x =>
    rcases h.only _ x hF with h1 | ⟨e, he, h1, _⟩
    ·exact absurd h1 (qbi h0)
    ·have := List.find?_eq_none.1 hf e he
     rw [qen h1] at this; simp at this
def qe4 (l : List Ent) (d : List UInt8) : List Ent := l.filter fun c => decide ((upB c.path).1 = d)
def qkn (a b : List Ent) (d : List UInt8) : Bool := decide (qbc a d = 1) && decide (qbc b d = 1) && (qe4 a d).all (fun c => decide (qbc b c.path = 0)) && decide (1 < (qe4 a d).length)
def qgb : List Ent → List Ent → List (List UInt8)
 | [], b => b.map Ent.path
 | x :: a, [] => (x :: a).map Ent.path
 | x :: a, y :: b => if qal (qaa x.path) (qaa y.path) < 0 then x.path :: qgb a (y :: b) else if qal (qaa x.path) (qaa y.path) = 0 then x.path :: qgb a b else y.path :: qgb (x :: a) b
termination_by a b => a.length + b.length
def qf4 (l : List Ent) (p : List UInt8) : Option Ent := l.find? fun e => decide (e.path = p)
def qvp (a b : List Ent) (p : List UInt8) : List Ent := match qf4 b p with
 | some y => if qf4 a p = some y then [] else [y]
 | none => []
def qvo (a b : List Ent) (p : List UInt8) : List Ent := if qkn a b p = true then [⟨p, 5, 0, []⟩] else []
def qvn (a b : List Ent) (p : List UInt8) : List Ent := if (qf4 a p).isSome = true ∧ (qf4 b p).isSome = false ∧ qbc b (upB p).1 = 1 ∧ qkn a b (upB p).1 = false then [⟨p, 4, 0, []⟩] else []
def qml (a b : List Ent) (p : List UInt8) : List Ent := qvp a b p ++ (qvo a b p ++ qvn a b p)
def qi1 (a b : List Ent) : List Ent := ([] :: qgb a b).flatMap (qml a b)
open Classical in
noncomputable def qdd (F : qaf) (p : Pth) : List (List UInt8) := if h : ∃ ks, Rise ks ∧ ∀ x, x ∈ ks ↔ (F (p ++ [x])).isSome = true then Classical.choose h else []
theorem qfo {F : qaf} {p : Pth} {ks : List (List UInt8)} (h1 : Rise ks) (h2 : ∀ x, x ∈ ks ↔ (F (p ++ [x])).isSome = true) : qdd F p = ks := by
 have h : ∃ ks, Rise ks ∧ ∀ x, x ∈ ks ↔ (F (p ++ [x])).isSome = true := ⟨ks, h1, h2⟩;unfold qdd;rw [dif_pos h];obtain ⟨g1, g2⟩ := Classical.choose_spec h;exact qk7 g1 h1 fun x => (g2 x).trans (h2 x).symm
def orF (F G : qaf) : qaf := fun p => match F p with | some x => some x | none => G p
theorem qcs {F G : qaf} {p : Pth} : (orF F G p).isSome = true ↔ (F p).isSome = true ∨ (G p).isSome = true := by
 unfold orF;cases F p <;> simp
noncomputable def qis (F G : qaf) (p : Pth) : Bool := (qdd F p).all (fun k => (G (p ++ [k])).isNone) && decide (1 < (qdd F p).length)
noncomputable def qd1 (F G : qaf) (p : Pth) (k : List UInt8) : List Ent := match G (p ++ [k]) with
 | none => if qis F G p = true then [] else [⟨qae (p ++ [k]), 4, 0, []⟩]
 | some x => if F (p ++ [k]) = some x then [] else [⟨qae (p ++ [k]), x.kind, x.mode, x.data⟩]
noncomputable def qc2 (F G : qaf) : Nat → Pth → List Ent
 | 0, _ => []
 | d + 1, p => (if qis F G p = true then [⟨qae p, 5, 0, []⟩] else []) ++ (qdd (orF F G) p).flatMap fun k => qd1 F G p k ++ (if qak G (p ++ [k]) = true then qc2 F G d (p ++ [k]) else [])
abbrev q1v (l : List Pth) : Prop := l.Pairwise fun a b => qal a b < 0
theorem qo1 {l m : List Pth} (hl : q1v l) (hm : q1v m) (h : ∀ x, x ∈ l ↔ x ∈ m) : l = m := by
 induction l generalizing m with
 | nil =>
  cases m with
  | nil => rfl
  | cons y ys => exact absurd ((h y).2 (by simp)) (by simp)
 | cons x xs ih =>
  cases m with
  | nil => exact absurd ((h x).1 (by simp)) (by simp)
  | cons y ys =>
   have hx := List.pairwise_cons.1 hl;have hy := List.pairwise_cons.1 hm;have irr : ∀ z : Pth, ¬ qal z z < 0 := fun z hz => by rw [qck] at hz; omega
   have hxy : x = y := by
    rcases List.mem_cons.1 ((h x).1 (by simp)) with e | e
    ·exact e
    ·rcases List.mem_cons.1 ((h y).2 (by simp)) with e2 | e2
     ·exact e2.symm
     ·have := qh5 (hy.1 x e); have := hx.1 y e2; omega
   subst hxy;congr 1
   refine ih hx.2 hy.2 fun z => ⟨fun hz => ?_, fun hz => ?_⟩
   ·rcases List.mem_cons.1 ((h z).1 (by simp [hz])) with e | e
    ·subst e; exact absurd (hx.1 z hz) (irr z)
    ·exact e
   ·rcases List.mem_cons.1 ((h z).2 (by simp [hz])) with e | e
    ·subst e; exact absurd (hy.1 z hz) (irr z)
    ·exact e
theorem qdp (a b : List Ent) (p : List UInt8) : p ∈ qgb a b ↔ (∃ e ∈ a, e.path = p) ∨ (∃ e ∈ b, e.path = p) := by
 fun_induction qgb a b with
 | case1 b => simp
 | case2 x a => simp [eq_comm]
 | case3 x a y b h ih => rw [List.mem_cons, ih]; simp only [List.mem_cons, exists_eq_or_imp]; grind
 | case4 x a y b h h0 ih =>
  have := qen (qgw h0);rw [List.mem_cons, ih]; simp only [List.mem_cons, exists_eq_or_imp]; grind
 | case5 x a y b h h0 ih => rw [List.mem_cons, ih]; simp only [List.mem_cons, exists_eq_or_imp]; grind
theorem qrp (a b : List Ent) (ha : qqo a) (hb : qqo b) : q1v ((qgb a b).map qaa) := by
 fun_induction qgb a b with
 | case1 b => rw [List.map_map]; exact List.pairwise_map.2 hb
 | case2 x a => rw [List.map_map]; exact List.pairwise_map.2 ha
 | case3 x a y b h ih =>
  have ha' := List.pairwise_cons.1 ha;have hb' := List.pairwise_cons.1 hb;rw [List.map_cons];refine List.pairwise_cons.2 ⟨fun q hq => ?_, ih ha'.2 hb⟩;obtain ⟨p, hp, rfl⟩ := List.mem_map.1 hq;rcases (qdp _ _ _).1 hp with ⟨e, he, rfl⟩ | ⟨e, he, rfl⟩
  ·exact ha'.1 e he
  ·rcases List.mem_cons.1 he with rfl | he
   ·exact h
   ·exact qd5 h (hb'.1 e he)
 | case4 x a y b h h0 ih =>
  have ha' := List.pairwise_cons.1 ha;have hb' := List.pairwise_cons.1 hb;rw [List.map_cons];refine List.pairwise_cons.2 ⟨fun q hq => ?_, ih ha'.2 hb'.2⟩;obtain ⟨p, hp, rfl⟩ := List.mem_map.1 hq;rcases (qdp _ _ _).1 hp with ⟨e, he, rfl⟩ | ⟨e, he, rfl⟩
  ·exact ha'.1 e he
  ·rw [qgw h0]; exact hb'.1 e he
 | case5 x a y b h h0 ih =>
  have ha' := List.pairwise_cons.1 ha;have hb' := List.pairwise_cons.1 hb;have hyx : qal (qaa y.path) (qaa x.path) < 0 := qm2 (by omega);rw [List.map_cons];refine List.pairwise_cons.2 ⟨fun q hq => ?_, ih ha hb'.2⟩;obtain ⟨p, hp, rfl⟩ := List.mem_map.1 hq;rcases (qdp _ _ _).1 hp with ⟨e, he, rfl⟩ | ⟨e, he, rfl⟩
  ·rcases List.mem_cons.1 he with rfl | he
   ·exact hyx
   ·exact qd5 hyx (ha'.1 e he)
  ·exact hb'.1 e he
noncomputable def qmc (H : qaf) : Nat → Pth → List Pth
 | 0, _ => []
 | d + 1, p => (qdd H p).flatMap fun k => (p ++ [k]) :: qmc H d (p ++ [k])
structure Deep (H : qaf) : Prop where
 len : ∀ p, (H p).isSome = true → p.length ≤ 12
 names : ∀ p, ∃ ks, Rise ks ∧ ∀ x, x ∈ ks ↔ (H (p ++ [x])).isSome = true
 pre : ∀ p k, (H (p ++ [k])).isSome = true → (H p).isSome = true
theorem Deep.mem_names {H : qaf} (h : Deep H) (p : Pth) (x : List UInt8) : x ∈ qdd H p ↔ (H (p ++ [x])).isSome = true := by
 obtain ⟨ks, h1, h2⟩ := h.names p;rw [qfo h1 h2]; exact h2 x
theorem Deep.rise_names {H : qaf} (h : Deep H) (p : Pth) : Rise (qdd H p) := by
 obtain ⟨ks, h1, h2⟩ := h.names p;rw [qfo h1 h2]; exact h1
theorem Deep.pres {H : qaf} (h : Deep H) (p r : Pth) (hr : (H (p ++ r)).isSome = true) : (H p).isSome = true := by
 suffices hh : ∀ n (r : Pth), r.length = n → (H (p ++ r)).isSome = true → (H p).isSome = true from hh _ r rfl hr
 intro n;induction n with
 | zero => intro r hl hr; rw [List.eq_nil_of_length_eq_zero hl, List.append_nil] at hr; exact hr
 | succ n ih =>
  intro r hl hr;rcases qex r with rfl | ⟨a, b, rfl⟩
  ·simp at hl
  ·rw [← List.append_assoc] at hr
   exact ih a (by simpa using hl) (h.pre _ _ hr)
theorem qig {H : qaf} (h : Deep H) : ∀ (d : Nat) (p : Pth), p.length + d = 13 → ∀ q, q ∈ qmc H d p ↔ ∃ r, r ≠ [] ∧ q = p ++ r ∧ (H q).isSome = true := by
 intro d;induction d with
 | zero =>
  intro p hp q;constructor
  ·intro hq; simp [qmc] at hq
  ·rintro ⟨r, _, rfl, hq⟩
   have := h.len _ hq;rw [List.length_append] at this; omega
 | succ d ih =>
  intro p hp q;rw [qmc, List.mem_flatMap];constructor
  ·rintro ⟨k, hk, hq⟩
   rcases List.mem_cons.1 hq with rfl | hq
   ·exact ⟨[k], by simp, rfl, (h.mem_names p k).1 hk⟩
   ·obtain ⟨r, _, rfl, h2⟩ := (ih (p ++ [k]) (by simp; omega) q).1 hq
    exact ⟨k :: r, by simp, by simp, h2⟩
  ·rintro ⟨r, hr, rfl, h2⟩
   cases r with
   | nil => exact absurd rfl hr
   | cons k r =>
    have e1 : p ++ k :: r = p ++ [k] ++ r := by simp
    rw [e1] at h2 ⊢;refine ⟨k, (h.mem_names p k).2 (h.pres _ r h2), List.mem_cons.2 ?_⟩;by_cases hr2 : r = []
    ·subst hr2; rw [List.append_nil]; exact .inl rfl
    ·exact .inr ((ih (p ++ [k]) (by simp; omega) _).2 ⟨r, hr2, rfl, h2⟩)
theorem qtw {H : qaf} (h : Deep H) : ∀ (d : Nat) (p : Pth), p.length + d = 13 → q1v (qmc H d p) := by
 intro d;induction d with
 | zero => intro p _; exact List.Pairwise.nil
 | succ d ih =>
  intro p hp;have hin : ∀ k, ∀ q ∈ (p ++ [k]) :: qmc H d (p ++ [k]), ∃ r, q = p ++ k :: r := by
   intro k q hq;rcases List.mem_cons.1 hq with rfl | hq
   ·exact ⟨[], rfl⟩
   ·obtain ⟨r, _, rfl, _⟩ := (qig h d (p ++ [k]) (by simp; omega) q).1 hq
    exact ⟨r, by simp⟩
  rw [qmc];refine List.pairwise_flatMap.2 ⟨fun k hk => List.pairwise_cons.2 ⟨fun q hq => ?_, ih _ (by simp; omega)⟩, (h.rise_names p).imp_of_mem fun {k1 k2} hk1 hk2 hlt q1 hq1 q2 hq2 => ?_⟩
  ·obtain ⟨r, hr, rfl, _⟩ := (qig h d (p ++ [k]) (by simp; omega) q).1 hq
   exact qfy _ _ hr
  ·obtain ⟨r1, rfl⟩ := hin k1 q1 hq1
   obtain ⟨r2, rfl⟩ := hin k2 q2 hq2;rw [qfn, qal, if_pos hlt]; omega
theorem Lists.deep {l : List Ent} {F : qaf} (h : Lists l F) (hT : IsTree F) : Deep F :=
 ⟨fun p hp => by obtain ⟨x, hx⟩ := Option.isSome_iff_exists.1 hp; exact (h.elems hx).2.2, h.names, fun p k hk => by obtain ⟨x, hx, _⟩ := hT.up p k hk; rw [hx]; rfl⟩
theorem qyy {F G : qaf} (h : Deep F) (k : Deep G) : Deep (orF F G) := by
 refine ⟨fun p hp => (qcs.1 hp).elim (h.len p) (k.len p), fun p => ?_, fun p x hx => qcs.2 ((qcs.1 hx).imp (h.pre p x) (k.pre p x))⟩;obtain ⟨ks, h1, h2⟩ := qw7 (qdd F p ++ qdd G p);refine ⟨ks, h1, fun x => ?_⟩;rw [h2, List.mem_append, h.mem_names, k.mem_names, qcs]
theorem qu4 {a b : List Ent} {F G : qaf} (ha : Lists a F) (hb : Lists b G) (hF : IsTree F) (hG : IsTree G) : (qgb a b).map qaa = qmc (orF F G) 13 [] := by
 have hd := qyy (ha.deep hF) (hb.deep hG);refine qo1 (qrp a b ha.rise hb.rise) (qtw hd 13 [] rfl) fun q => ?_
 rw [qig hd 13 [] rfl, List.mem_map];have key : ∀ {l : List Ent} {F : qaf}, Lists l F → ∀ q : Pth, q ≠ [] → ((∃ e ∈ l, qaa e.path = q) ↔ (F q).isSome = true) := by
  intro l F h q hq;constructor
  ·rintro ⟨e, he, rfl⟩; rw [h.mem e he]; rfl
  ·intro hs
   obtain ⟨x, hx⟩ := Option.isSome_iff_exists.1 hs;rcases h.only q x hx with e | ⟨e, he, h2, _⟩
   ·exact absurd e hq
   ·exact ⟨e, he, h2⟩
 constructor
 ·rintro ⟨p, hp, rfl⟩
  have hne : qaa p ≠ [] := by
   rcases (qdp _ _ _).1 hp with ⟨e, he, rfl⟩ | ⟨e, he, rfl⟩
   ·exact qbi (ha.each e he).2.1
   ·exact qbi (hb.each e he).2.1
  refine ⟨qaa p, hne, rfl, qcs.2 ?_⟩;rcases (qdp _ _ _).1 hp with ⟨e, he, rfl⟩ | ⟨e, he, rfl⟩
  ·exact .inl ((key ha _ hne).1 ⟨e, he, rfl⟩)
  ·exact .inr ((key hb _ hne).1 ⟨e, he, rfl⟩)
 ·rintro ⟨r, hr, rfl, hs⟩
  rcases qcs.1 hs with hs | hs
  ·obtain ⟨e, he, h2⟩ := (key ha _ hr).2 hs
   exact ⟨e.path, (qdp _ _ _).2 (.inl ⟨e, he, rfl⟩), h2⟩
  ·obtain ⟨e, he, h2⟩ := (key hb _ hr).2 hs
   exact ⟨e.path, (qdp _ _ _).2 (.inr ⟨e, he, rfl⟩), h2⟩
theorem q1b (a b : List Ent) (p : List UInt8) : (qml a b p).length ≤ 3 := by
 have h1 : (qvp a b p).length ≤ 1 := by unfold qvp; split <;> (try split) <;> simp
 have h2 : (qvo a b p).length ≤ 1 := by unfold qvo; split <;> simp
 have h3 : (qvn a b p).length ≤ 1 := by unfold qvn; split <;> simp
 unfold qml;simp only [List.length_append]; omega
theorem qx5 (a b : List Ent) : (qgb a b).length ≤ a.length + b.length := by
 fun_induction qgb a b with
 | case1 b => simp
 | case2 x a => simp
 | case3 x a y b h ih => simp only [List.length_cons] at *; omega
 | case4 x a y b h h0 ih => simp only [List.length_cons] at *; omega
 | case5 x a y b h h0 ih => simp only [List.length_cons] at *; omega
theorem qys (a b : List Ent) (l : List (List UInt8)) : (l.flatMap (qml a b)).length ≤ 3 * l.length := by
 induction l with
 | nil => simp
 | cons p r ih => rw [List.flatMap_cons, List.length_append, List.length_cons]; have := q1b a b p; omega
theorem q1f (a b : List Ent) : (qi1 a b).length ≤ 3 * (a.length + b.length + 1) := by
 have h := qys a b ([] :: qgb a b);have := qx5 a b;unfold qi1;rw [List.length_cons] at h; omega
attribute [local go_sem] Oper.semAt_some
def goV (b3 b4 : Nat) : Value := .func (.func 112) #[] #[.pointer (some ⟨b3, 0, none⟩), .pointer (some ⟨b4, 0, none⟩)]
theorem q17 {w0 : World} {B N : Nat} {a m : Pth → Nat} {F : qaf} (hT : TreeAt w0 B N a m F) (hF : FineF F) (hN : N ≤ 4294967290) (X0 : Nat → Prop) (hX0 : qsm X0 a m F) (l : Nat) (xs : List Ent) (J : List Ent → (Nat → Prop) → World → Prop)
 (hrely : ∀ pre X W W', J pre X W → Below W.heap.size W W' → J pre (qde X W W') W')
 (hY : ∀ n pre x rest X W, xs = pre ++ x :: rest → J pre X W → YieldAt Fence.wide n Tryz.prog l (encE x) W fun e W' => e = .returned (.bool true) ∧ J (pre ++ [x]) X W' ∧ StaysX X W W')
 (hJX : ∀ pre X W, J pre X W → ∀ k, X k → k < W.heap.size) (b3 b4 : Nat) :
 ∀ (d n : Nat) (p : Pth) (x : Nd) (L pre rest : List Ent) (X : Nat → Prop) (W : World), p.length + d = 13 → F p = some x → WalkL F p L → xs = pre ++ (L ++ rest) → J pre X W → (∀ k, X0 k → X k) → (∀ k, X0 k → W.heap[k]? = w0.heap[k]?) → X b3 → X b4 →
  W.cell? ⟨b3, 0, none⟩ = some (.func (.yield l) #[] #[]) → W.cell? ⟨b4, 0, none⟩ = some (goV b3 b4) →
  CallsIn Fence.wide n Tryz.prog 112 #[.pointer (some ⟨a p, 0, none⟩), .string (S (qae p)), .pointer (some ⟨b3, 0, none⟩), .pointer (some ⟨b4, 0, none⟩)] W fun e W' =>
   e = .returned (.bool true) ∧ ∃ X', J (pre ++ L) X' W' ∧ (∀ k, X k → X' k) ∧ StaysX X W W' := by
 intro d;induction d with
 | zero =>
  intro n p x L pre rest X W hd hx;have := (hF.len p x hx).2;omega
 | succ d ih =>
  intro n p x L pre rest X W hd hx hL hxs hJ hX hW h3 h4 c3 c4;obtain ⟨ks, Ls, hks, hmem, hLs, rfl⟩ : ∃ (ks : List (List UInt8)) (Ls : List UInt8 → List Ent), Rise ks ∧ (∀ x, x ∈ ks ↔ (F (p ++ [x])).isSome = true) ∧ (∀ x ∈ ks, WalkL F (p ++ [x]) (Ls x)) ∧ L = ks.flatMap (fun k => qfk F (p ++ [k]) :: Ls k) := by
   cases hL with
   | mk _ ks Ls h1 h2 h3 => exact ⟨ks, Ls, h1, h2, h3, rfl⟩
  have hT1 := hT.stayX hX0 hW;refine callsIn_of_wp Tryz.func112 rfl trivial ?_ rfl;simp only [Tryz.ntmps112, List.size_toArray, List.length_cons, List.length_nil, Nat.reduceAdd, Nat.reduceSub, Array.replicate_succ, Array.replicate_zero, List.push_toArray, List.append_toArray, List.nil_append, List.cons_append];have hnm : CallsIn Fence.wide (n - 1) Tryz.prog _ _ W _ := callsIn_wide.2 (qxy hT1 p x hx hN);gi_wp2_with ((first | refine ⟨trivial, fun h => (by cases h), ?_⟩ | refine ⟨fun h => (by cases h), ?_⟩ | skip); gi_at_call 107; refine hnm.mono ?_; clear hnm; rintro e W1 ⟨ns, A, cap, rfl, hrd, hns, hnsm, hnl, hb1, hfr, hnsl⟩)
  obtain rfl : ns = ks := qk7 hns hks (fun y => (hnsm y).trans (hmem y).symm);have HRd := q4z hrd;have HFr := q4z hfr;have HNl := q4z hnl;have HHX := q4z hX;have HJ1 := q4z (hrely _ _ _ _ hJ hb1);have HS1 : Hid (StaysX X W W1) := q4z ⟨hb1.size, fun k hk => hb1.block k (hJX _ _ _ hJ k hk)⟩;have HXW := q4z (hJX _ _ _ hJ);have HB1 := q4z hb1;clear hns hnsm hrd hb1 hT1 hL hfr hnl
  gi_loopw [13] (fun i wr => ∃ (k : Nat) (X2 : Nat → Prop), k ≤ ns.length ∧ i = .int .i64 k ∧ Hid (J (pre ++ (ns.take k).flatMap (fun k => qfk F (p ++ [k]) :: Ls k)) X2 wr) ∧ Hid (∀ k, X k → X2 k) ∧ Hid (StaysX X W wr) ∧ Hid (Rd wr A (strs ns)) ∧ Hid (∀ b o, A = some ⟨b, o, none⟩ → 0 < ns.length → X2 b)) (fun i _ => ns.length - (intOf i).toNat)
  case atStart =>
   refine ⟨0, qde X W W1, Nat.zero_le _, rfl, ?_, fun k hk => .inl hk, HS1, HRd, fun b o hA hp => ?_⟩
   ·exact q4z (by simpa using HJ1.out)
   ·obtain ⟨b', o', hA', hlt⟩ := HFr.out hp
    rw [hA] at hA';obtain ⟨rfl, rfl⟩ : b' = b ∧ o' = o := by cases hA'; exact ⟨rfl, rfl⟩
    obtain ⟨b'', o'', hA'', hb'', _⟩ := HRd.out.at 0 (by simp [strs]; omega);rw [hA] at hA'';obtain ⟨rfl, rfl⟩ : b'' = b' ∧ o'' = o' := by cases hA''; exact ⟨rfl, rfl⟩
    exact .inr ⟨hlt, hb''⟩
  case round =>
   obtain ⟨k, X2, hk, rfl, HJ, HX2, HSt, HR, HXb⟩ := hrel;by_cases hlt : k < ns.length
   ·obtain ⟨bA, oA, rfl, hbA, hcA⟩ := HR.out.at k (by simp [strs]; omega)
    have hck := hcA k _ (qcg hlt);obtain ⟨nm, hnm⟩ : ∃ nm, ns[k] = nm := ⟨_, rfl⟩;rw [hnm] at hck;have hin : nm ∈ ns := hnm ▸ List.getElem_mem hlt;obtain ⟨y, hy⟩ := Option.isSome_iff_exists.1 ((hmem nm).1 hin);have HTr := q4z (hT.stayX hX0 (fun q hq => (HSt.out.same q (HHX.out q hq)).trans (hW q hq)));have HE := q4z (qfs hy);have hnml : nm.length ≤ maxLen := HNl.out nm hin;have hlk := HTr.out.look p x hx nm hnml;rw [show (if (F (p ++ [nm])).isSome then some (a (p ++ [nm])) else none) = some (a (p ++ [nm])) by rw [hy]; rfl] at hlk;replace hlk : (Instr.lookup tMap (mapV x (m p)) (.string (S nm)) false).run Tryz.prog wr = .ok (.pointer (some ⟨a (p ++ [nm]), 0, none⟩)) wr := hlk
    obtain ⟨_, _, _, _, p4⟩ := HTr.out.cells p x hx;obtain ⟨y0, y1, y2, y3, _⟩ := HTr.out.cells (p ++ [nm]) y hy;have hjn := hF.join p nm (by rw [hy]; rfl);have hjl := (hF.len _ y hy).1;have hjp := (hF.len _ x hx).1;have hnl2 := hF.name p nm (by rw [hy]; rfl);have HJn : Hid (∀ w, CallsIn Fence.wide (n - 1) Tryz.prog 109 #[.string (S (qae p)), .string (S nm)] w fun e w' => e = .returned (.string (S (qae (p ++ [nm])))) ∧ w = w') := q4z fun w => by
     have h := qe2 (qae p) nm w (by omega);rw [hjn] at h;exact callsIn_wide.2 h
    clear hcA;gi_wp2_with ((first | refine ⟨trivial, fun h => (by cases h), ?_⟩ | refine ⟨fun h => (by cases h), ?_⟩ | skip); gi_at_call 109; refine (HJn.out _).mono ?_; rintro e wj ⟨rfl, rfl⟩)
    obtain ⟨w2, hw2⟩ : ∃ w2, (wr.alloc (Obj.cells #[.string (S (qae (p ++ [nm]))), .int .i64 y.kind, .int .i64 y.mode, .string (S y.data)] 47)).drew = w2 := ⟨_, rfl⟩;have hb2 : Below wr.heap.size wr w2 := by rw [← hw2]; exact ((Below.refl _ _).alloc (Nat.le_refl _) _).drew
    have hbox : w2.heap[wr.heap.size]? = some (Obj.cells #[.string (S (qae (p ++ [nm]))), .int .i64 y.kind, .int .i64 y.mode, .string (S y.data)] 47 (0, 0)) := by rw [← hw2]; exact heap_alloc_new wr _
    have hsz2 : w2.heap.size = wr.heap.size + 1 := by rw [← hw2]; exact World.size_alloc wr _
    have hJ2 := hrely _ _ _ _ HJ.out hb2;have hsplit : ns = ns.take k ++ nm :: ns.drop (k + 1) := by rw [← hnm]; exact (List.take_append_drop k ns).symm.trans (by rw [List.drop_eq_getElem_cons hlt])
    have hxs2 : xs = (pre ++ (ns.take k).flatMap (fun k => qfk F (p ++ [k]) :: Ls k)) ++ qfk F (p ++ [nm]) :: (Ls nm ++ ((ns.drop (k + 1)).flatMap (fun k => qfk F (p ++ [k]) :: Ls k) ++ rest)) := by
     rw [hxs];conv => lhs; rw [hsplit]
     simp only [List.flatMap_append, List.flatMap_cons, List.append_assoc, List.cons_append]
    obtain ⟨fn, tmps, assign, body, hy2, hR⟩ := hY (n - 1) _ _ _ _ _ hxs2 hJ2;have hSw2 : StaysX X W w2 := HSt.out.trans ⟨hb2.size, fun q hq => hb2.block q (Nat.lt_of_lt_of_le (HXW.out q hq) HSt.out.size)⟩;have e3 : w2.cell? ⟨b3, 0, none⟩ = some (.func (.yield l) #[] #[]) := qap c3 (hSw2.same b3 h3);rw [HE.out] at hy2;simp only [encE, Ent.agg] at hy2;obtain ⟨gx, hgx⟩ : ∃ g, g = wr.heap.size := ⟨_, rfl⟩;have q0 : w2.cell? ⟨wr.heap.size, 0, none⟩ = some (.string (S (qae (p ++ [nm])))) := by rw [cell_of_row w2 _ _ _ _ _ hbox]; rfl
    have q1 : w2.cell? ⟨wr.heap.size, 1, none⟩ = some (.int .i64 y.kind) := by rw [cell_of_row w2 _ _ _ _ _ hbox]; rfl
    have q2 : w2.cell? ⟨wr.heap.size, 2, none⟩ = some (.int .i64 y.mode) := by rw [cell_of_row w2 _ _ _ _ _ hbox]; rfl
    have q3 : w2.cell? ⟨wr.heap.size, 3, none⟩ = some (.string (S y.data)) := by rw [cell_of_row w2 _ _ _ _ _ hbox]; rfl
    have FX3 : Hid (∀ w3, StaysX (qde X2 wr w2) w2 w3 → w3.cell? ⟨wr.heap.size, 0, none⟩ = some (.string (S (qae (p ++ [nm])))) ∧ w3.cell? ⟨wr.heap.size, 1, none⟩ = some (.int .i64 y.kind) ∧ w3.cell? ⟨wr.heap.size, 2, none⟩ = some (.int .i64 y.mode) ∧ w3.cell? ⟨wr.heap.size, 3, none⟩ = some (.string (S y.data)) ∧ w3.cell? ⟨b4, 0, none⟩ = some (.func (.func 112) #[] #[.pointer (some ⟨b3, 0, none⟩), .pointer (some ⟨b4, 0, none⟩)]) ∧ w3.cell? ⟨b3, 0, none⟩ = some (.func (.yield l) #[] #[]) ∧ w3.cell? ⟨a p, 4, none⟩ = some (mapV x (m p)) ∧
     (Instr.lookup tMap (mapV x (m p)) (.string (S nm)) false).run Tryz.prog w3 = .ok (.pointer (some ⟨a (p ++ [nm]), 0, none⟩)) w3 ∧ (∀ q, X0 q → w3.heap[q]? = w0.heap[q]?) ∧ StaysX X W w3) := q4z fun w3 h => by
     have hXX : ∀ q, X q → w3.heap[q]? = w2.heap[q]? := fun q hq => h.same q (.inl (HX2.out q hq))
     have hS : StaysX X W w3 := hSw2.trans ⟨h.size, hXX⟩;have h0 : ∀ q, X0 q → w3.heap[q]? = w0.heap[q]? := fun q hq => (hS.same q (HHX.out q hq)).trans (hW q hq)
     have hT3 := hT.stayX hX0 h0;have hl := hT3.look p x hx nm hnml;rw [show (if (F (p ++ [nm])).isSome then some (a (p ++ [nm])) else none) = some (a (p ++ [nm])) by rw [hy]; rfl] at hl;have hbx := h.same wr.heap.size (.inr ⟨Nat.le_refl _, by omega⟩);exact ⟨qap q0 hbx, qap q1 hbx, qap q2 hbx, qap q3 hbx, qap c4 (hS.same _ h4), qap c3 (hS.same _ h3), (hT3.cells p x hx).2.2.2.2, hl, h0, hS⟩
    have HY := q4z hy;have HIH : Hid (∀ w3, StaysX (qde X2 wr w2) w2 w3 → J (pre ++ (ns.take k).flatMap (fun k => qfk F (p ++ [k]) :: Ls k) ++ [qfk F (p ++ [nm])]) (qde X2 wr w2) w3 →
     CallsIn Fence.wide (n - 1) Tryz.prog 112 #[.pointer (some ⟨a (p ++ [nm]), 0, none⟩), .string (S (qae (p ++ [nm]))), .pointer (some ⟨b3, 0, none⟩), .pointer (some ⟨b4, 0, none⟩)] w3 fun e w4 =>
      e = .returned (.bool true) ∧ ∃ X4, Hid (J (pre ++ (ns.take k).flatMap (fun k => qfk F (p ++ [k]) :: Ls k) ++ [qfk F (p ++ [nm])] ++ Ls nm) X4 w4) ∧ Hid (∀ q, X q → X4 q) ∧ Hid (∀ q, X2 q → X4 q) ∧ Hid (StaysX (qde X2 wr w2) w2 w4)) := q4z fun w3 h hj => by
     obtain ⟨_, _, _, _, f1, f2, _, _, f5, _⟩ := FX3.out w3 h;refine (ih (n - 1) (p ++ [nm]) y (Ls nm) _ ((ns.drop (k + 1)).flatMap (fun k => qfk F (p ++ [k]) :: Ls k) ++ rest) _ w3 (by simp; omega) hy (hLs nm hin) (by rw [hxs2]; simp only [List.append_assoc, List.cons_append, List.nil_append]) hj (fun q hq => .inl (HX2.out q (HHX.out q hq))) f5 (.inl (HX2.out _ h3)) (.inl (HX2.out _ h4)) f2 f1).mono ?_;rintro e w4 ⟨he, X4, hJ4, hX4, hS4⟩;exact ⟨he, X4, hJ4, fun q hq => hX4 q (.inl (HX2.out q hq)), fun q hq => hX4 q (.inl hq), h.trans hS4⟩
    clear hy hlk p4 y0 y1 y2 y3 hck hJ2 HTr hsplit hxs hJ c3 c4;refine qnn (S := StaysX (qde X2 wr w2) w2) (by kernel_rfl) (by rw [hw2]; exact StaysX.refl _ _) (fun hHeld => ?_);rw [hw2] at hHeld ⊢;refine qa6 (i := 0) (oi := ⟨some 30, _, _, _, _, _⟩) (v := ?_) rfl rfl (by kernel_rfl) (by kernel_rfl) (by kernel_rfl) (fun _ _ _ h => h) (Or.inl ⟨by rfl, ?_⟩) (fun _ => rfl) (by assumption) ?_;rotate_left
    ·(intro w hSw; obtain ⟨s0, s1, s2, s3, s4, s5, s6, s7, _⟩ := FX3.out w hSw; clear hSw; go_simp; first | done | (with_reducible rfl))
    simp only [Act.put, List.setIfInBounds_toArray, List.set_cons_zero, List.set_cons_succ];refine qa6 (i := 1) (oi := ⟨some 31, _, _, _, _, _⟩) (v := ?_) rfl rfl (by kernel_rfl) (by kernel_rfl) (by kernel_rfl) (fun _ _ _ h => h) (Or.inl ⟨by rfl, ?_⟩) (fun _ => rfl) (by assumption) ?_;rotate_left
    ·(intro w hSw; obtain ⟨s0, s1, s2, s3, s4, s5, s6, s7, _⟩ := FX3.out w hSw; clear hSw; go_simp; first | done | (with_reducible rfl))
    simp only [Act.put, List.setIfInBounds_toArray, List.set_cons_zero, List.set_cons_succ];refine qa6 (i := 2) (oi := ⟨some 32, _, _, _, _, _⟩) (v := ?_) rfl rfl (by kernel_rfl) (by kernel_rfl) (by kernel_rfl) (fun _ _ _ h => h) (Or.inl ⟨by rfl, ?_⟩) (fun _ => rfl) (by assumption) ?_;rotate_left
    ·(intro w hSw; obtain ⟨s0, s1, s2, s3, s4, s5, s6, s7, _⟩ := FX3.out w hSw; clear hSw; go_simp; first | done | (with_reducible rfl))
    simp only [Act.put, List.setIfInBounds_toArray, List.set_cons_zero, List.set_cons_succ];refine qa6 (i := 3) (oi := ⟨some 33, _, _, _, _, _⟩) (v := ?_) rfl rfl (by kernel_rfl) (by kernel_rfl) (by kernel_rfl) (fun _ _ _ h => h) (Or.inl ⟨by rfl, ?_⟩) (fun _ => rfl) (by assumption) ?_;rotate_left
    ·(intro w hSw; obtain ⟨s0, s1, s2, s3, s4, s5, s6, s7, _⟩ := FX3.out w hSw; clear hSw; go_simp; first | done | (with_reducible rfl))
    simp only [Act.put, List.setIfInBounds_toArray, List.set_cons_zero, List.set_cons_succ];refine qmo (i := 4) (by kernel_rfl) rfl (fun K' hK' => ?_);go_simp
    (first | refine ⟨trivial, fun h => (by cases h), ?_⟩ | refine ⟨fun h => (by cases h), ?_⟩ | skip)
    refine hR.mono ?_;rintro e5 w3 ⟨rfl, hJ3, hS3⟩;refine hK' _ _ hS3 ?_;(try dsimp only)
    (try simp only [Act.put, List.setIfInBounds_toArray, List.set_cons_zero, List.set_cons_succ])
    refine qa6 (i := 5) (oi := ⟨some 35, _, _, _, _, _⟩) (v := ?_) rfl rfl (by kernel_rfl) (by kernel_rfl) (by kernel_rfl) (fun _ _ _ h => h) (Or.inl ⟨by rfl, ?_⟩) (fun _ => rfl) (by assumption) ?_;rotate_left
    ·(intro w hSw; obtain ⟨s0, s1, s2, s3, s4, s5, s6, s7, _⟩ := FX3.out w hSw; clear hSw; go_simp; first | done | (with_reducible rfl))
    simp only [Act.put, List.setIfInBounds_toArray, List.set_cons_zero, List.set_cons_succ];refine qa6 (i := 6) (oi := ⟨some 36, _, _, _, _, _⟩) (v := ?_) rfl rfl (by kernel_rfl) (by kernel_rfl) (by kernel_rfl) (fun _ _ _ h => h) (Or.inl ⟨by rfl, ?_⟩) (fun _ => rfl) (by assumption) ?_;rotate_left
    ·(intro w hSw; obtain ⟨s0, s1, s2, s3, s4, s5, s6, s7, _⟩ := FX3.out w hSw; clear hSw; go_simp; first | done | (with_reducible rfl))
    simp only [Act.put, List.setIfInBounds_toArray, List.set_cons_zero, List.set_cons_succ];refine qa6 (i := 7) (oi := ⟨some 37, _, _, _, _, _⟩) (v := ?_) rfl rfl (by kernel_rfl) (by kernel_rfl) (by kernel_rfl) (fun _ _ _ h => h) (Or.inl ⟨by rfl, ?_⟩) (fun _ => rfl) (by assumption) ?_;rotate_left
    ·(intro w hSw; obtain ⟨s0, s1, s2, s3, s4, s5, s6, s7, _⟩ := FX3.out w hSw; clear hSw; go_simp; first | done | (with_reducible rfl))
    simp only [Act.put, List.setIfInBounds_toArray, List.set_cons_zero, List.set_cons_succ];refine qa6 (i := 8) (oi := ⟨some 38, _, _, _, _, _⟩) (v := ?_) rfl rfl (by kernel_rfl) (by kernel_rfl) (by kernel_rfl) (fun _ _ _ h => h) (Or.inl ⟨by rfl, ?_⟩) (fun _ => rfl) (by assumption) ?_;rotate_left
    ·(intro w hSw; obtain ⟨s0, s1, s2, s3, s4, s5, s6, s7, _⟩ := FX3.out w hSw; clear hSw; go_simp; first | done | (with_reducible rfl))
    simp only [Act.put, List.setIfInBounds_toArray, List.set_cons_zero, List.set_cons_succ];refine qa6 (i := 9) (oi := ⟨some 39, _, _, _, _, _⟩) (v := ?_) rfl rfl (by kernel_rfl) (by kernel_rfl) (by kernel_rfl) (fun _ _ _ h => h) (Or.inl ⟨by rfl, ?_⟩) (fun _ => rfl) (by assumption) ?_;rotate_left
    ·(intro w hSw; obtain ⟨s0, s1, s2, s3, s4, s5, s6, s7, _⟩ := FX3.out w hSw; clear hSw; go_simp; first | done | (with_reducible rfl))
    simp only [Act.put, List.setIfInBounds_toArray, List.set_cons_zero, List.set_cons_succ];refine qa6 (i := 10) (oi := ⟨some 40, _, _, _, _, _⟩) (v := ?_) rfl rfl (by kernel_rfl) (by kernel_rfl) (by kernel_rfl) (fun _ _ _ h => h) (Or.inl ⟨by rfl, ?_⟩) (fun _ => rfl) (by assumption) ?_;rotate_left
    ·(intro w hSw; obtain ⟨s0, s1, s2, s3, s4, s5, s6, s7, _⟩ := FX3.out w hSw; clear hSw; go_simp; first | done | (with_reducible rfl))
    simp only [Act.put, List.setIfInBounds_toArray, List.set_cons_zero, List.set_cons_succ];refine qa6 (i := 11) (oi := ⟨some 41, _, _, _, _, _⟩) (v := ?_) rfl rfl (by kernel_rfl) (by kernel_rfl) (by kernel_rfl) (fun _ _ _ h => h) (Or.inl ⟨by rfl, ?_⟩) (fun _ => rfl) (by assumption) ?_;rotate_left
    ·(intro w hSw; obtain ⟨s0, s1, s2, s3, s4, s5, s6, s7, _⟩ := FX3.out w hSw; clear hSw; go_simp; first | done | (with_reducible rfl))
    simp only [Act.put, List.setIfInBounds_toArray, List.set_cons_zero, List.set_cons_succ];refine qa6 (i := 12) (oi := ⟨some 42, _, _, _, _, _⟩) (v := ?_) rfl rfl (by kernel_rfl) (by kernel_rfl) (by kernel_rfl) (fun _ _ _ h => h) (Or.inl ⟨by rfl, ?_⟩) (fun _ => rfl) (by assumption) ?_;rotate_left
    ·(intro w hSw; obtain ⟨s0, s1, s2, s3, s4, s5, s6, s7, _⟩ := FX3.out w hSw; clear hSw; go_simp; first | done | (with_reducible rfl))
    simp only [Act.put, List.setIfInBounds_toArray, List.set_cons_zero, List.set_cons_succ];refine qa6 (i := 13) (oi := ⟨some 43, _, _, _, _, _⟩) (v := ?_) rfl rfl (by kernel_rfl) (by kernel_rfl) (by kernel_rfl) (fun _ _ _ h => h) (Or.inl ⟨by rfl, ?_⟩) (fun _ => rfl) (by assumption) ?_;rotate_left
    ·(intro w hSw; obtain ⟨s0, s1, s2, s3, s4, s5, s6, s7, _⟩ := FX3.out w hSw; clear hSw; go_simp; first | done | (with_reducible rfl))
    simp only [Act.put, List.setIfInBounds_toArray, List.set_cons_zero, List.set_cons_succ];refine qa6 (i := 14) (oi := ⟨some 44, _, _, _, _, _⟩) (v := ?_) rfl rfl (by kernel_rfl) (by kernel_rfl) (by kernel_rfl) (fun _ _ _ h => h) (Or.inl ⟨by rfl, ?_⟩) (fun _ => rfl) (by assumption) ?_;rotate_left
    ·(intro w hSw; obtain ⟨s0, s1, s2, s3, s4, s5, s6, s7, _⟩ := FX3.out w hSw; clear hSw; go_simp; first | done | (with_reducible rfl))
    simp only [Act.put, List.setIfInBounds_toArray, List.set_cons_zero, List.set_cons_succ];refine qa6 (i := 15) (oi := ⟨some 45, _, _, _, _, _⟩) (v := ?_) rfl rfl (by kernel_rfl) (by kernel_rfl) (by kernel_rfl) (fun _ _ _ h => h) (Or.inl ⟨by rfl, ?_⟩) (fun _ => rfl) (by assumption) ?_;rotate_left
    ·(intro w hSw; obtain ⟨s0, s1, s2, s3, s4, s5, s6, s7, _⟩ := FX3.out w hSw; clear hSw; go_simp; first | done | (with_reducible rfl))
    simp only [Act.put, List.setIfInBounds_toArray, List.set_cons_zero, List.set_cons_succ];refine qmo (i := 16) (by kernel_rfl) rfl (fun K2 hK2 => ?_);go_simp
    (first | refine ⟨trivial, fun h => (by cases h), ?_⟩ | refine ⟨fun h => (by cases h), ?_⟩ | skip)
    gi_at_call 112
    refine (HIH.out w3 hS3 hJ3).mono ?_;rintro e6 w4 ⟨rfl, X4, HJ4, HX4, HX24, HS4⟩;refine hK2 _ _ HS4.out ?_;(try dsimp only)
    (try simp only [Act.put, List.setIfInBounds_toArray, List.set_cons_zero, List.set_cons_succ])
    have hS4 := HS4.out;refine qa6 (i := 17) (oi := ⟨some 47, _, _, _, _, _⟩) (v := ?_) rfl rfl (by kernel_rfl) (by kernel_rfl) (by kernel_rfl) (fun _ _ _ h => h) (Or.inl ⟨by rfl, ?_⟩) (fun _ => rfl) (by assumption) ?_;rotate_left
    ·(intro w hSw; obtain ⟨s0, s1, s2, s3, s4, s5, s6, s7, _⟩ := FX3.out w hSw; clear hSw; go_simp; first | done | (with_reducible rfl))
    simp only [Act.put, List.setIfInBounds_toArray, List.set_cons_zero, List.set_cons_succ];refine qa6 (i := 18) (oi := ⟨some 48, _, _, _, _, _⟩) (v := ?_) rfl rfl (by kernel_rfl) (by kernel_rfl) (by kernel_rfl) (fun _ _ _ h => h) (Or.inl ⟨by rfl, ?_⟩) (fun _ => rfl) (by assumption) ?_;rotate_left
    ·(intro w hSw; obtain ⟨s0, s1, s2, s3, s4, s5, s6, s7, _⟩ := FX3.out w hSw; clear hSw; go_simp; first | done | (with_reducible rfl))
    simp only [Act.put, List.setIfInBounds_toArray, List.set_cons_zero, List.set_cons_succ];refine qqr (by kernel_rfl) ?_ _;have HJ5 : Hid (J (pre ++ (ns.take (k + 1)).flatMap (fun k => qfk F (p ++ [k]) :: Ls k)) X4 w4) := q4z (by
     have e : ns.take (k + 1) = ns.take k ++ [nm] := by rw [List.take_succ_eq_append_getElem hlt, hnm]
     rw [e, List.flatMap_append];have h := HJ4.out;simpa using h)
    have HS5 : Hid (StaysX X W w4) := q4z (hSw2.trans ⟨HS4.out.size, fun q hq => HS4.out.same q (.inl (HX2.out q hq))⟩);have HR5 : Hid (Rd w4 (some ⟨bA, oA, none⟩) (strs ns)) := q4z (by
     rcases HR.out with h | ⟨b, o, hA, hc⟩
     ·exact .inl h
     ·refine .inr ⟨b, o, hA, fun i u hu => ?_⟩
      obtain ⟨rfl, rfl⟩ : bA = b ∧ oA = o := by cases hA; exact ⟨rfl, rfl⟩
      exact qap (hc i u hu) ((HS4.out.same bA (.inl (HXb.out bA oA rfl (by omega)))).trans (hb2.block bA hbA)))
    have HX5 : Hid (∀ b o, (some ⟨bA, oA, none⟩ : Option Addr) = some ⟨b, o, none⟩ → 0 < ns.length → X4 b) := q4z (fun b o h hp => HX24.out b (HXb.out b o h hp));have hwk : IntKind.i64.wrap ((k : Int) + 1) = (k : Int) + 1 := by rw [IntKind.wrap_i64]; omega
    gi_wp2
    go_roundw
    case rel => exact ⟨k + 1, X4, by omega, by go_num, HJ5, HX4, HS5, HR5, HX5⟩
    case measure => simp [intOf]; omega
   ·obtain rfl : k = ns.length := by omega
    rw [List.take_length] at HJ;gi_wp2
    go_ret;exact ⟨rfl, X2, HJ.out, HX2.out, HSt.out⟩
theorem Lists.back {l : List Ent} {F : qaf} (h : Lists l F) {q : Pth} {x : Nd} (hx : F q = some x) : qaa (qae q) = q := qew fun e he => by
 have := qba ((h.elems hx).1 e he); exact ⟨this.1, this.2.2⟩
theorem Lists.kinds {l : List Ent} {F : qaf} (h : Lists l F) {q : Pth} {x : Nd} (hx : F q = some x) : x.kind ≠ 0 := by
 rcases h.only q x hx with rfl | ⟨e, he, rfl, rfl⟩
 ·rw [h.root] at hx; rw [← Option.some.inj hx]; decide
 ·have := qhp (h.each e he).2.2
  show e.kind ≠ 0; omega
theorem qn1 {l : List Ent} {F : qaf} (h : Lists l F) {q : Pth} (hq : q ≠ []) (hb : qaa (qae q) = q) : qf4 l (qae q) = (F q).map fun x => ⟨qae q, x.kind, x.mode, x.data⟩ := by
 unfold qf4;cases hf : l.find? (fun e => decide (e.path = qae q)) with
 | some e =>
  have h1 := List.find?_some hf;have h2 := List.mem_of_find?_eq_some hf;have h3 : e.path = qae q := by simpa using h1
  have h4 := h.mem e h2;rw [h3, hb] at h4;rw [h4];obtain ⟨p, k, m, d⟩ := e;simp only at h3;subst h3; rfl
 | none =>
  cases hF : F q with
  | none => rfl
  | some x =>
   rcases h.only _ x hF with h1 | ⟨e, he, h1, _⟩
   ·exact absurd h1 hq
   ·have := List.find?_eq_none.1 hf e he
    rw [← h1, qa1] at this; simp at this
theorem qnd {l : List Ent} {F : qaf} (h : Lists l F) : qf4 l [] = none := by
 unfold qf4;rw [List.find?_eq_none];intro e he;have := (h.each e he).2.1;simpa using this
theorem qmm {l : List Ent} {F : qaf} (h : Lists l F) {p : Pth} (hb : qaa (qae p) = p) : (qe4 l (qae p)).map (fun c => (upB c.path).2) = qdd F p ∧ ∀ c ∈ qe4 l (qae p), qaa c.path = p ++ [(upB c.path).2] := by
 have hup : ∀ c ∈ qe4 l (qae p), qaa c.path = p ++ [(upB c.path).2] := by
  intro c hc;obtain ⟨h1, h2⟩ := List.mem_filter.1 hc;obtain ⟨hp, hne, _⟩ := h.each c h1;have e1 := qdz hp;rw [show (upB c.path).1 = qae p by simpa using h2, hb] at e1;have := (qdm hp hne).1;rw [← e1] at this; exact this
 refine ⟨(qfo ?_ fun x => ?_).symm, hup⟩
 ·refine List.pairwise_map.2 ((h.rise.sublist List.filter_sublist).imp_of_mem fun {c1 c2} h1 h2 hlt => ?_)
  have hlt2 : qal (qaa c1.path) (qaa c2.path) < 0 := hlt;rw [hup c1 h1, hup c2 h2, qfn, qal] at hlt2;by_cases hx : (upB c1.path).2 < (upB c2.path).2
  ·exact hx
  ·rw [if_neg hx] at hlt2
   by_cases hy : (upB c2.path).2 < (upB c1.path).2
   ·rw [if_pos hy] at hlt2; omega
   ·rw [if_neg hy, qck] at hlt2; omega
 ·rw [List.mem_map]
  constructor
  ·rintro ⟨c, hc, rfl⟩
   rw [← hup c hc, h.mem c (List.mem_filter.1 hc).1]; rfl
  ·intro hx
   obtain ⟨y, hy⟩ := Option.isSome_iff_exists.1 hx;rcases h.only _ y hy with e | ⟨e, he, h1, _⟩
   ·simp at e
   ·obtain ⟨hp, hne, _⟩ := h.each e he
    have e1 := qdz hp;have e2 := (qdm hp hne).1;rw [h1, List.dropLast_concat] at e1 e2;have e3 := (List.append_inj' e2 rfl).2;refine ⟨e, List.mem_filter.2 ⟨he, ?_⟩, by simpa using e3.symm⟩;rw [decide_eq_true_eq, ← e1, qa1]
theorem qfd {a b : List Ent} {F G : qaf} (ha : Lists a F) (hb : Lists b G) {p : Pth} (hp : qaa (qae p) = p) : qkn a b (qae p) = (qak F p && qak G p && qis F G p) := by
 obtain ⟨h1, h2⟩ := qmm ha hp;have hd : ∀ {l : List Ent} {F : qaf}, Lists l F → decide (qbc l (qae p) = 1) = qak F p := fun h => by rw [qe1 h _ (Classical.em _), hp]
 have hall : (qe4 a (qae p)).all (fun c => decide (qbc b c.path = 0)) = (qdd F p).all (fun k => (G (p ++ [k])).isNone) := by
  rw [← h1, List.all_map];rw [Bool.eq_iff_iff, List.all_eq_true, List.all_eq_true];refine forall_congr' fun c => forall_congr' fun hc => ?_
  rw [← Bool.eq_iff_iff, qeq hb, h2 c hc, qmg];show _ = (G (p ++ [(upB c.path).2])).isNone
  cases hG : G (p ++ [(upB c.path).2]) with
  | none => simp
  | some x => simpa using hb.kinds hG
 have hlen : (qe4 a (qae p)).length = (qdd F p).length := by rw [← h1, List.length_map]
 unfold qkn qis;rw [hd ha, hd hb, hall, hlen];cases qak F p <;> cases qak G p <;> simp
theorem qyt {a b : List Ent} {F G : qaf} (ha : Lists a F) (hb : Lists b G) (hF : IsTree F) (p : Pth) (k : List UInt8) (hp : qaa (qae p) = p) (hk : qaa (qae (p ++ [k])) = p ++ [k]) (hu : (upB (qae (p ++ [k]))).1 = qae p)
 (hd : qak G p = true) (hs : (orF F G (p ++ [k])).isSome = true) :
 qml a b (qae (p ++ [k])) = qd1 F G p k ++ (if qak G (p ++ [k]) = true ∧ qis F G (p ++ [k]) = true then [⟨qae (p ++ [k]), 5, 0, []⟩] else []) := by
 have hne : p ++ [k] ≠ [] := by simp
 have hA := qn1 ha hne hk;have hB := qn1 hb hne hk;have hfd : (F (p ++ [k])).isSome = true → qak F p = true := fun h => by
  obtain ⟨x, hx, h1⟩ := hF.up p k h;exact qai.2 ⟨x, hx, h1⟩
 have hlost : qis F G (p ++ [k]) = true → qak F (p ++ [k]) = true := by
  intro h;unfold qis at h;simp only [Bool.and_eq_true, decide_eq_true_eq] at h;cases hn : qdd F (p ++ [k]) with
  | nil => rw [hn] at h; simp at h
  | cons y r =>
   have : (F (p ++ [k] ++ [y])).isSome = true := by
    obtain ⟨ks, g1, g2⟩ := ha.names (p ++ [k]);rw [qfo g1 g2] at hn;exact (g2 y).1 (by rw [hn]; simp)
   obtain ⟨x, hx, h1⟩ := hF.up _ _ this;exact qai.2 ⟨x, hx, h1⟩
 have hkd : qbc b (upB (qae (p ++ [k]))).1 = 1 := by
  have := qe1 hb (upB (qae (p ++ [k]))).1 (Classical.em _);rw [hu, hp, hd] at this;rw [hu]; simpa using this
 unfold qml qvp qvo qvn qd1;rw [qfd ha hb hk, hkd, hu, qfd ha hb hp, hd, hA, hB];cases hG : G (p ++ [k]) with
 | none =>
  have hFs : (F (p ++ [k])).isSome = true := by
   rcases qcs.1 hs with h | h
   ·exact h
   ·rw [hG] at h; cases h
  have hdn : qak G (p ++ [k]) = false := qds hG;rw [hdn, hfd hFs];simp only [Option.map_none, Option.isSome_map, hFs];cases qis F G p <;> simp
 | some x =>
  have e1 : (Option.map (fun x : Nd => (⟨qae (p ++ [k]), x.kind, x.mode, x.data⟩ : Ent)) (F (p ++ [k])) = some ⟨qae (p ++ [k]), x.kind, x.mode, x.data⟩) ↔ F (p ++ [k]) = some x := by
   cases F (p ++ [k]) with
   | none => simp
   | some y =>
    obtain ⟨y1, y2, y3⟩ := y;obtain ⟨x1, x2, x3⟩ := x;simp
  have e2 : ((qak F (p ++ [k]) && qak G (p ++ [k]) && qis F G (p ++ [k])) = true) ↔ (qak G (p ++ [k]) = true ∧ qis F G (p ++ [k]) = true) := by
   simp only [Bool.and_eq_true];exact ⟨fun h => ⟨h.1.2, h.2⟩, fun h => ⟨⟨hlost h.2, h.1⟩, h.2⟩⟩
  simp only [Option.map_some, e1, e2, Option.isSome_some];simp
theorem qvm {a b : List Ent} {F G : qaf} (ha : Lists a F) (hb : Lists b G) (hG : IsTree G) (p r : Pth) (hr : r ≠ []) (hq : qaa (qae (p ++ r)) = p ++ r) (hu : qaa (upB (qae (p ++ r))).1 = (p ++ r).dropLast)
 (hd : qak G p = false) : qml a b (qae (p ++ r)) = [] := by
 have hne : p ++ r ≠ [] := by simp [hr]
 have hpar : qak G (p ++ r).dropLast = false := by
  rcases qex r with rfl | ⟨s, e, rfl⟩
  ·exact absurd rfl hr
  ·rw [← List.append_assoc, List.dropLast_concat]
   cases hs : qak G (p ++ s) with
   | false => rfl
   | true =>
    obtain ⟨x, hx, hk⟩ := qai.1 hs;cases s with
    | nil => rw [List.append_nil] at hs; rw [hs] at hd; cases hd
    | cons y s =>
     have e1 : p ++ y :: s = p ++ [y] ++ s := by simp
     have h2 : (G (p ++ [y])).isSome = true := by
      cases hG2 : G (p ++ [y]) with
      | some _ => rfl
      | none => rw [e1, hG.pre _ _ hG2] at hx; cases hx
     obtain ⟨z, hz, hzk⟩ := hG.up p y h2;rw [qai.2 ⟨z, hz, hzk⟩] at hd; cases hd
 have hGn : G (p ++ r) = none := by
  cases hG2 : G (p ++ r) with
  | none => rfl
  | some x =>
   rcases qex (p ++ r) with e | ⟨s, e, h3⟩
   ·exact absurd e hne
   ·rw [h3] at hG2 hpar
    obtain ⟨z, hz, hzk⟩ := hG.up s e (by rw [hG2]; rfl);rw [List.dropLast_concat, qai.2 ⟨z, hz, hzk⟩] at hpar; cases hpar
 have hkd : qbc b (upB (qae (p ++ r))).1 ≠ 1 := by
  have := qe1 hb (upB (qae (p ++ r))).1 (Classical.em _);rw [hu, hpar] at this;simpa using this
 unfold qml qvp qvo qvn;rw [qn1 hb hne hq, hGn, qfd ha hb hq, qds hGn];simp [hkd]
theorem qyw {a b : List Ent} {F G : qaf} (ha : Lists a F) (hb : Lists b G) (hF : IsTree F) (hG : IsTree G) : ∀ (d : Nat) (p : Pth), p.length + d = 13 → qak G p = true →
 qc2 F G d p = if 0 < d then (if qis F G p = true then [⟨qae p, 5, 0, []⟩] else []) ++ (qmc (orF F G) d p).flatMap (fun q => qml a b (qae q)) else [] := by
 have hd := qyy (ha.deep hF) (hb.deep hG);have hback : ∀ q, (orF F G q).isSome = true → qaa (qae q) = q := by
  intro q hq;rcases qcs.1 hq with h | h
  ·obtain ⟨x, hx⟩ := Option.isSome_iff_exists.1 h; exact ha.back hx
  ·obtain ⟨x, hx⟩ := Option.isSome_iff_exists.1 h; exact hb.back hx
 have hpath : ∀ q, q ≠ [] → (orF F G q).isSome = true → qaa (upB (qae q)).1 = q.dropLast := by
  intro q hne hq;have key : ∀ {l : List Ent} {F : qaf}, Lists l F → (F q).isSome = true → qa3 (qae q) = true := by
   intro l F h hs;obtain ⟨x, hx⟩ := Option.isSome_iff_exists.1 hs;rcases h.only q x hx with e | ⟨e, he, h1, _⟩
   ·exact absurd e hne
   ·rw [← h1, qa1]; exact (h.each e he).1
  have hpb : qa3 (qae q) = true := (qcs.1 hq).elim (key ha) (key hb);rw [qdz hpb, hback q hq]
 intro d;induction d with
 | zero => intro p _ _; rfl
 | succ d ih =>
  intro p hp hdir;rw [qc2, if_pos (Nat.succ_pos d), qmc, List.flatMap_assoc];congr 1
  rw [List.flatMap_def, List.flatMap_def];congr 1
  refine List.map_congr_left fun k hk => ?_
  have hs := (hd.mem_names p k).1 hk;have hpp : qaa (qae p) = p := by
   obtain ⟨x, hx, _⟩ := qai.1 hdir;exact hb.back hx
  have hkk := hback _ hs;have hu : (upB (qae (p ++ [k]))).1 = qae p := by
   have := hpath _ (by simp) hs;rw [List.dropLast_concat] at this;rw [← qa1 (upB (qae (p ++ [k]))).1, this]
  rw [List.flatMap_cons, qyt ha hb hF p k hpp hkk hu hdir hs, List.append_assoc];congr 1
  cases hdk : qak G (p ++ [k]) with
  | true =>
   have hlen := hd.len _ hs;rw [if_pos rfl, ih (p ++ [k]) (by simp; omega) hdk, if_pos (by simp only [List.length_append, List.length_singleton] at hlen; omega)];simp
  | false =>
   rw [if_neg (by decide), if_neg (fun h => by cases h.1)];symm;rw [List.nil_append, List.flatMap_eq_nil_iff];intro q hq;obtain ⟨r, hr, rfl, hqs⟩ := (qig hd d (p ++ [k]) (by simp; omega) q).1 hq;exact qvm ha hb hG (p ++ [k]) r hr (hback _ hqs) (hpath _ (by simp) hqs) hdk
theorem qp6 {a b : List Ent} {F G : qaf} (ha : Lists a F) (hb : Lists b G) (hF : IsTree F) (hG : IsTree G) : qi1 a b = qc2 F G 13 [] := by
 obtain ⟨x, hx, hk⟩ := hG.root;have hdir := qai.2 ⟨x, hx, hk⟩;obtain ⟨y, hy, hk2⟩ := hF.root;rw [qyw ha hb hF hG 13 [] rfl hdir, if_pos (by decide)];unfold qi1;rw [List.flatMap_cons];congr 1
 ·have hc := qfd ha hb (p := []) rfl
  rw [show qae ([] : Pth) = [] from rfl, hdir, qai.2 ⟨y, hy, hk2⟩] at hc;unfold qml qvp qvo qvn;rw [qnd hb, qnd ha, hc];simp [qae]
 ·rw [← qu4 ha hb hF hG, List.flatMap_map]
  simp only [qa1]
end Go.Proofs.YtikdblkfjchjbaaGreatDoor
