import Derived.Sort.Walk0
import Derived.Test.YtikdblkfjchjbaaGreatDoorY00
set_option linter.unusedVariables false
set_option linter.unusedSimpArgs false
set_option maxHeartbeats 16000000
set_option maxRecDepth 100000
namespace Go.Proofs.YtikdblkfjchjbaaGreatDoor
def qal : List (List UInt8) → List (List UInt8) → Int
 | x :: xs, y :: ys => if x < y then -1 else if y < x then 1 else qal xs ys
 | xs, ys => (xs.length : Int) - ys.length
def qar : List (List UInt8) → List (List UInt8) → Int
 | [], [] => 0
 | [], _ :: _ => -1
 | _ :: _, [] => 1
 | x :: xs, y :: ys => if x < y then -1 else if y < x then 1 else qar xs ys
theorem qi3 (a b : List (List UInt8)) : (qar a b = 0 ↔ qal a b = 0) ∧ (0 < qar a b ↔ 0 < qal a b) ∧ (qar a b < 0 ↔ qal a b < 0) := by
 induction a generalizing b with
 | nil =>
  cases b with
  | nil => simp [qar, qal]
  | cons y ys => simp only [qar, qal, List.length_nil, List.length_cons]; omega
 | cons x xs ih =>
  cases b with
  | nil => simp only [qar, qal, List.length_nil, List.length_cons]; omega
  | cons y ys =>
   rw [qar, qal];split
   ·simp
   ·split
    ·simp
    ·exact ih ys
def cmpS (a b : List UInt8) : Int := if a < b then -1 else if b < a then 1 else 0
theorem qya (a b : List UInt8) : Op.bytesLess a b = decide (a < b) := _root_.Go.Proofs.bytesLess_eq a b
def inB (dir rest : List UInt8) : List UInt8 := if dir = [] ∨ rest = [] then dir ++ rest else dir ++ 47 :: rest
def qcn (p dir : List UInt8) : Bool := if dir = [] then !p.isEmpty else (dir ++ [47]).isPrefixOf p
def upB (p : List UInt8) : List UInt8 × List UInt8 := (qae (qaa p).dropLast, (qaa p).getLastD [])
def visC (c : UInt8) : Bool := 33 ≤ c && c ≤ 126
theorem qzp (c : UInt8) : visC c = true ↔ 33 ≤ (c.toNat : Int) ∧ (c.toNat : Int) ≤ 126 := by
 simp only [visC, Bool.and_eq_true, decide_eq_true_eq, UInt8.le_iff_toNat_le];simp; omega
def qgk (s : List UInt8) : Bool := s.all visC && (!s.isEmpty && decide (s.length ≤ 100))
structure Ent where
 path : List UInt8
 kind : Int
 mode : Int
 data : List UInt8
 deriving DecidableEq
def Ent.cells (e : Ent) : List Value := [.string (S e.path), .int .i64 e.kind, .int .i64 e.mode, .string (S e.data)]
def Ent.agg (e : Ent) : Value := .agg #[.string (S e.path), .int .i64 e.kind, .int .i64 e.mode, .string (S e.data)]
def ents : List Ent → List Value
 | [] => []
 | e :: r => e.cells ++ ents r
theorem q06 (l : List Ent) : (ents l).length = l.length * 4 := by
 induction l with
 | nil => rfl
 | cons e r ih => simp only [ents, List.length_append, ih, List.length_cons]; simp [Ent.cells]; omega
theorem qtc (l m : List Ent) : ents (l ++ m) = ents l ++ ents m := by
 induction l with
 | nil => rfl
 | cons e r ih => simp only [List.cons_append, ents, ih, List.append_assoc]
theorem q07 (l : List Ent) (i : Nat) (h : i < l.length) : (ents l)[i * 4]? = some (.string (S l[i].path)) ∧ (ents l)[i * 4 + 1]? = some (.int .i64 l[i].kind) ∧ (ents l)[i * 4 + 2]? = some (.int .i64 l[i].mode) ∧ (ents l)[i * 4 + 3]? = some (.string (S l[i].data)) := by
 induction l generalizing i with
 | nil => simp at h
 | cons e r ih =>
  cases i with
  | zero => simp [ents, Ent.cells]
  | succ i =>
   have := ih i (by simpa using h);have e4 : (i + 1) * 4 = 4 + i * 4 := by omega
   simp only [ents, e4, List.getElem_cons_succ];refine ⟨?_, ?_, ?_, ?_⟩
   ·rw [List.getElem?_append_right (by simp [Ent.cells])]; simpa [Ent.cells] using this.1
   ·rw [List.getElem?_append_right (by simp [Ent.cells]; omega)]; simpa [Ent.cells, Nat.add_assoc] using this.2.1
   ·rw [List.getElem?_append_right (by simp [Ent.cells]; omega)]; simpa [Ent.cells, Nat.add_assoc] using this.2.2.1
   ·rw [List.getElem?_append_right (by simp [Ent.cells]; omega)]; simpa [Ent.cells, Nat.add_assoc] using this.2.2.2
def qiq (m : Int) : Bool := decide (0 ≤ m ∧ m ≤ 511)
def qbm (e : Ent) : Bool :=
 if e.kind = 1 then qiq e.mode && e.data.isEmpty
 else if e.kind = 2 then qiq e.mode && decide (e.data.length ≤ 4096)
 else if e.kind = 3 then decide (e.mode = 0) && qgk e.data
 else false
def qmf (c : Ent) : Bool := (decide (c.kind = 4) || decide (c.kind = 5)) && decide (c.mode = 0) && c.data.isEmpty
def qc0 (i : Nat) (c : Ent) : Bool := !(decide (i = 80) || !qa3 c.path || (!qbm c && !qmf c) || (c.path.isEmpty && !decide (c.kind = 5)))
def qh2 (pre : List Ent) (c : Ent) : Bool := pre.any fun x => qcn c.path x.path && !decide (x.kind = 1) && !decide (x.kind = 5)
def qgf (x c : Ent) : Bool := !(decide (0 ≤ qal (qaa x.path) (qaa c.path)) && !(decide (qal (qaa x.path) (qaa c.path) = 0) && decide (x.kind = 1) && decide (c.kind = 5)))
def barR (l : List Ent) (i : Nat) : Bool := match l[i]? with
 | none => false
 | some c => !qc0 i c || (match l[i - 1]? with | some x => decide (0 < i) && !qgf x c | none => false) || qh2 (l.take i) c
theorem qfu {l : List Ent} {k : Nat} {c : Ent} (h : l[k]? = some c) (hs : qc0 k c = false) : barR l k = true := by
 rw [barR, h]; show (!qc0 k c || _ || _) = true; rw [hs]; rfl
theorem qqi {l : List Ent} {k : Nat} {c x : Ent} (h : l[k]? = some c) (h0 : 0 < k) (hx : l[k - 1]? = some x) (hn : qgf x c = false) : barR l k = true := by
 have e : barR l k = (!qc0 k c || (match l[k - 1]? with | some x => decide (0 < k) && !qgf x c | none => false) || qh2 (l.take k) c) := by rw [barR, h]
 rw [e, hx];show (!qc0 k c || (decide (0 < k) && !qgf x c) || _) = true
 rw [hn, decide_eq_true h0]; simp
theorem ql9 {l : List Ent} {k : Nat} {c : Ent} (h : l[k]? = some c) (hs : qh2 (l.take k) c = true) : barR l k = true := by
 have e : barR l k = (!qc0 k c || (match l[k - 1]? with | some x => decide (0 < k) && !qgf x c | none => false) || qh2 (l.take k) c) := by rw [barR, h]
 rw [e, hs, Bool.or_true]
theorem qzb {l : List Ent} {k : Nat} {c : Ent} (h : l[k]? = some c) (hs : qc0 k c = true) (hx : k = 0 ∨ ∃ x, l[k - 1]? = some x ∧ qgf x c = true) (hh : qh2 (l.take k) c = false) : barR l k = false := by
 have e : barR l k = (!qc0 k c || (match l[k - 1]? with | some x => decide (0 < k) && !qgf x c | none => false) || qh2 (l.take k) c) := by rw [barR, h]
 rw [e, hs, hh];rcases hx with h0 | ⟨x, hx, hn⟩
 ·subst h0; cases l[0 - 1]? <;> simp
 ·rw [hx]
  show (!true || (decide (0 < k) && !qgf x c) || false) = false
  rw [hn]; simp
theorem qsy {pre : List Ent} {c x : Ent} {q : Nat} (h : pre[q]? = some x) (h1 : qcn c.path x.path = true) (h2 : x.kind ≠ 1) (h3 : x.kind ≠ 5) : qh2 pre c = true := by
 unfold qh2;rw [List.any_eq_true];exact ⟨x, List.mem_of_getElem? h, by simp [h1, h2, h3]⟩
theorem qmu {pre : List Ent} {c : Ent} (h : ∀ (q : Nat) (x : Ent), pre[q]? = some x → qcn c.path x.path = false ∨ x.kind = 1 ∨ x.kind = 5) : qh2 pre c = false := by
 unfold qh2;rw [List.any_eq_false];intro x hx;obtain ⟨q, hq⟩ := List.getElem?_of_mem hx;rcases h q x hq with h | h | h <;> simp [h]
def First (f : Nat → Bool) (n : Nat) (r : Int) : Prop := (∃ i : Nat, i < n ∧ r = i ∧ f i = true ∧ ∀ j, j < i → f j = false) ∨ (r = -1 ∧ ∀ j, j < n → f j = false)
theorem First.uniq {f g : Nat → Bool} {n : Nat} {r s : Int} (h : First f n r) (k : First g n s) (e : ∀ i, i < n → (∀ j, j < i → f j = false) → (∀ j, j < i → g j = false) → f i = g i) : r = s := by
 have key : ∀ i, i ≤ n → (∀ j, j < i → f j = false) → ∀ j, j < i → g j = false := by
  intro i hi hf;intro j hj;induction j using Nat.strongRecOn with
  | ind j ih => rw [← e j (by omega) (fun q hq => hf q (by omega)) (fun q hq => ih q hq (by omega))]; exact hf j hj
 have key2 : ∀ i, i ≤ n → (∀ j, j < i → g j = false) → ∀ j, j < i → f j = false := by
  intro i hi hg;intro j hj;induction j using Nat.strongRecOn with
  | ind j ih => rw [e j (by omega) (fun q hq => ih q hq (by omega)) (fun q hq => hg q (by omega))]; exact hg j hj
 rcases h with ⟨i, hi, rfl, h1, h2⟩ | ⟨rfl, h2⟩
 ·rcases k with ⟨m, hm, rfl, k1, k2⟩ | ⟨rfl, k2⟩
  ·rcases Nat.lt_trichotomy i m with h | h | h
   ·have := key2 m (by omega) k2 i h; rw [h1] at this; cases this
   ·rw [h]
   ·have := key i (by omega) h2 m h; rw [k1] at this; cases this
  ·have := key2 n (Nat.le_refl _) k2 i hi; rw [h1] at this; cases this
 ·rcases k with ⟨m, hm, rfl, k1, k2⟩ | ⟨rfl, k2⟩
  ·have := key n (Nat.le_refl _) h2 m hm; rw [k1] at this; cases this
  ·rfl
open Go.RowKit
theorem qib {w wr : World} {A : Option Addr} {l : List Ent} (hr : Rd w A (ents l)) (hbel : Below w.heap.size w wr) (k : Nat) (hlt : k < l.length) :
 ∃ b o, A = some ⟨b, o, none⟩ ∧ b < w.heap.size ∧ wr.cell? ⟨b, o + k * 4, none⟩ = some (.string (S l[k].path)) ∧ wr.cell? ⟨b, o + k * 4 + 1, none⟩ = some (.int .i64 l[k].kind) ∧
  wr.cell? ⟨b, o + k * 4 + 2, none⟩ = some (.int .i64 l[k].mode) ∧ wr.cell? ⟨b, o + k * 4 + 3, none⟩ = some (.string (S l[k].data)) := by
 obtain ⟨b, o, rfl, hbb, hc⟩ := hr.at (k * 4) (by rw [q06]; omega);obtain ⟨c0, c1, c2, c3⟩ := q07 l k hlt;exact ⟨b, o, rfl, hbb, (hbel.cell (p := ⟨b, o + k * 4, none⟩) hbb).trans (hc _ _ c0), (hbel.cell (p := ⟨b, o + (k * 4 + 1), none⟩) hbb).trans (hc _ _ c1),
  (hbel.cell (p := ⟨b, o + (k * 4 + 2), none⟩) hbb).trans (hc _ _ c2), (hbel.cell (p := ⟨b, o + (k * 4 + 3), none⟩) hbb).trans (hc _ _ c3)⟩
def Cell4 (W : World) (g : Nat) (c : Ent) : Prop :=
 W.cell? ⟨g, 0, none⟩ = some (.string (S c.path)) ∧ W.cell? ⟨g, 1, none⟩ = some (.int .i64 c.kind) ∧ W.cell? ⟨g, 2, none⟩ = some (.int .i64 c.mode) ∧ W.cell? ⟨g, 3, none⟩ = some (.string (S c.data))
theorem Cell4.below {W W' : World} {g : Nat} {c : Ent} (h : Cell4 W g c) (hb : Below W.heap.size W W') : Cell4 W' g c := by
 obtain ⟨h0, h1, h2, h3⟩ := h;have hg : g < W.heap.size := q40 W _ h0;exact ⟨(hb.cell (p := ⟨g, 0, none⟩) hg).trans h0, (hb.cell (p := ⟨g, 1, none⟩) hg).trans h1, (hb.cell (p := ⟨g, 2, none⟩) hg).trans h2, (hb.cell (p := ⟨g, 3, none⟩) hg).trans h3⟩
theorem Cell4.new (w : World) (c : Ent) (t : TypeId) : Cell4 (w.alloc (.cells #[.string (S c.path), .int .i64 c.kind, .int .i64 c.mode, .string (S c.data)] t)) w.heap.size c := by
 refine ⟨?_, ?_, ?_, ?_⟩ <;> rw [World.cell?_alloc_at _ _ _ _ (by simp)] <;> rfl
theorem qgw {a b : List (List UInt8)} (h : qal a b = 0) : a = b := by
 induction a generalizing b with
 | nil =>
  cases b with
  | nil => rfl
  | cons y ys => simp only [qal, List.length_nil, List.length_cons] at h; omega
 | cons x xs ih =>
  cases b with
  | nil => simp only [qal, List.length_nil, List.length_cons] at h; omega
  | cons y ys =>
   rw [qal] at h;split at h
   ·omega
   ·split at h
    ·omega
    ·rename_i h1 h2
     rw [List.le_antisymm (List.not_lt.1 h2) (List.not_lt.1 h1), ih h]
theorem qck (a : List (List UInt8)) : qal a a = 0 := by
 induction a with
 | nil => rfl
 | cons x xs ih => rw [qal, if_neg (List.lt_irrefl x), if_neg (List.lt_irrefl x), ih]
theorem qd5 {a b c : List (List UInt8)} (h1 : qal a b < 0) (h2 : qal b c < 0) : qal a c < 0 := by
 induction a generalizing b c with
 | nil =>
  cases c with
  | nil =>
   cases b with
   | nil => exact h1
   | cons y ys => simp only [qal, List.length_nil, List.length_cons] at h2; omega
  | cons z zs => simp only [qal, List.length_nil, List.length_cons]; omega
 | cons x xs ih =>
  cases b with
  | nil => simp only [qal, List.length_nil, List.length_cons] at h1; omega
  | cons y ys =>
   cases c with
   | nil => simp only [qal, List.length_nil, List.length_cons] at h2; omega
   | cons z zs =>
    rw [qal] at h1 h2 ⊢;by_cases hxy : x < y
    ·by_cases hyz : y < z
     ·rw [if_pos (List.lt_trans hxy hyz)]; omega
     ·rw [if_neg hyz] at h2
      by_cases hzy : z < y
      ·rw [if_pos hzy] at h2; omega
      ·have e : y = z := List.le_antisymm (List.not_lt.1 hzy) (List.not_lt.1 hyz)
       subst e;rw [if_pos hxy]; omega
    ·rw [if_neg hxy] at h1
     by_cases hyx : y < x
     ·rw [if_pos hyx] at h1; omega
     ·rw [if_neg hyx] at h1
      have e : x = y := List.le_antisymm (List.not_lt.1 hyx) (List.not_lt.1 hxy);subst e;by_cases hyz : x < z
      ·rw [if_pos hyz]; omega
      ·rw [if_neg hyz] at h2 ⊢
       by_cases hzy : z < x
       ·rw [if_pos hzy] at h2; omega
       ·rw [if_neg hzy] at h2 ⊢
        exact ih h1 h2
theorem qmd {a y c : List (List UInt8)} (h : a <+: c) (h1 : qal a y < 0) (h2 : qal y c < 0) : a <+: y := by
 induction a generalizing y c with
 | nil => exact List.nil_prefix
 | cons x xs ih =>
  obtain ⟨r, rfl⟩ := h;cases y with
  | nil => simp only [qal, List.length_nil, List.length_cons] at h1; omega
  | cons z zs =>
   rw [List.cons_append, qal] at h2;rw [qal] at h1;by_cases hxz : x < z
   ·rw [if_neg (fun h => List.lt_irrefl x (List.lt_trans hxz h)), if_pos hxz] at h2; omega
   ·rw [if_neg hxz] at h1
    by_cases hzx : z < x
    ·rw [if_pos hzx] at h1; omega
    ·rw [if_neg hzx] at h1
     have e : x = z := List.le_antisymm (List.not_lt.1 hzx) (List.not_lt.1 hxz);subst e;rw [if_neg (List.lt_irrefl x), if_neg (List.lt_irrefl x)] at h2;obtain ⟨t, ht⟩ := ih ⟨r, rfl⟩ h1 h2;exact ⟨t, by rw [List.cons_append, ht]⟩
theorem qkm (c : UInt8) (p r : List UInt8) : cutB c (p ++ c :: r) = cutB c p ++ cutB c r := by
 induction p with
 | nil => simp [cutB]
 | cons x p ih =>
  rw [List.cons_append, cutB, cutB];split
  ·rw [ih]; rfl
  ·rw [ih]
   cases h : cutB c p with
   | nil => exact absurd h (qic c p)
   | cons a t => rfl
theorem qix (p : List UInt8) : qae (cutB 47 p) = p := by
 induction p with
 | nil => rfl
 | cons x p ih =>
  rw [cutB];split
  ·rename_i h
   subst h;cases h2 : cutB 47 p with
   | nil => exact absurd h2 (qic 47 p)
   | cons a t => rw [qae, ← h2, ih]; rfl
  ·cases h2 : cutB 47 p with
   | nil => exact absurd h2 (qic 47 p)
   | cons a t =>
    rw [h2] at ih;cases t with
    | nil => simp only [qae] at ih ⊢; rw [ih]
    | cons b u => simp only [qae, List.cons_append] at ih ⊢; rw [ih]
theorem qiy (a b : List (List UInt8)) (ha : a ≠ []) (hb : b ≠ []) : qae (a ++ b) = qae a ++ 47 :: qae b := by
 induction a with
 | nil => exact absurd rfl ha
 | cons x r ih =>
  cases r with
  | nil =>
   cases b with
   | nil => exact absurd rfl hb
   | cons y s => rfl
  | cons y s =>
   have := ih (by simp);simp only [List.cons_append, qae] at this ⊢;rw [this]; simp
theorem ql7 {p d : List UInt8} (hd : d ≠ []) (h : (d ++ [47]).isPrefixOf p = true) : qaa d <+: qaa p := by
 rw [List.isPrefixOf_iff_prefix] at h;obtain ⟨r, rfl⟩ := h;have e : d ++ [47] ++ r = d ++ 47 :: r := by simp
 rw [e];unfold qaa;rw [if_neg hd, if_neg (by simp), qkm];exact ⟨_, rfl⟩
theorem qlb {p d : List UInt8} (hd : d ≠ []) (h : qaa d <+: qaa p) (hne : qaa d ≠ qaa p) : (d ++ [47]).isPrefixOf p = true := by
 obtain ⟨r, hr⟩ := h;have hp : p ≠ [] := by
  intro e;subst e;have h1 : qaa ([] : List UInt8) = [] := rfl;rw [h1] at hr;have := (List.append_eq_nil_iff.1 hr).1;unfold qaa at this;rw [if_neg hd] at this;exact qic _ _ this
 have hrn : r ≠ [] := by intro e; subst e; rw [List.append_nil] at hr; exact hne hr
 unfold qaa at hr;rw [if_neg hd, if_neg hp] at hr;have := congrArg qae hr;rw [qiy _ _ (qic _ _) hrn, qix, qix] at this;rw [List.isPrefixOf_iff_prefix];exact ⟨qae r, by rw [← this]; simp⟩
def qfx (x : Ent) : Bool := !decide (x.kind = 1) && !decide (x.kind = 5)
def qd2 (pre : List Ent) : Option (List UInt8) := (pre.filter qfx).getLast?.map (fun x => x.path ++ [47])
theorem qcu (pre : List Ent) (c : Ent) : qd2 (pre ++ [c]) = if qfx c then some (c.path ++ [47]) else qd2 pre := by
 unfold qd2;rw [List.filter_append];cases h : qfx c <;> simp [h]
def qmx (k : Nat) (c : Ent) : Bool :=
 decide (k < 80) && qa3 c.path &&
 (if c.kind = 4 then !c.path.isEmpty && decide (c.mode = 0) && c.data.isEmpty
  else if c.kind = 5 then decide (c.mode = 0) && c.data.isEmpty
  else !c.path.isEmpty && qbm c)
def qip (x c : Ent) : Bool :=
 if qar (qaa x.path) (qaa c.path) = 0 then decide (x.kind = 1) && decide (c.kind = 5) else !decide (0 < qar (qaa x.path) (qaa c.path))
def qw1 (s : Option (List UInt8)) (c : Ent) : Bool := match s with | some t => t.isPrefixOf c.path | none => false
def barP (l : List Ent) (k : Nat) : Bool := match l[k]? with
 | none => false
 | some c => !(qmx k c && (match l[k - 1]? with | some x => decide (k = 0) || qip x c | none => true)) || qw1 (qd2 (l.take k)) c
theorem qxu (x c : Ent) : qip x c = qgf x c := by
 obtain ⟨h1, h2, h3⟩ := qi3 (qaa x.path) (qaa c.path);unfold qip qgf;by_cases h0 : qar (qaa x.path) (qaa c.path) = 0
 ·rw [if_pos h0, decide_eq_true (by rw [h1.1 h0]; omega : 0 ≤ qal (qaa x.path) (qaa c.path)), decide_eq_true (h1.1 h0)]
  simp
 ·rw [if_neg h0]
  by_cases hp : 0 < qar (qaa x.path) (qaa c.path)
  ·have hq := h2.1 hp
   rw [decide_eq_true hp, decide_eq_true (by omega : 0 ≤ qal (qaa x.path) (qaa c.path)), decide_eq_false (by omega : ¬ qal (qaa x.path) (qaa c.path) = 0)];simp
  ·have hq : qal (qaa x.path) (qaa c.path) < 0 := h3.1 (by omega)
   rw [decide_eq_false hp, decide_eq_false (by omega : ¬ 0 ≤ qal (qaa x.path) (qaa c.path))];simp
theorem qhp {c : Ent} (h : qbm c = true) : c.kind = 1 ∨ c.kind = 2 ∨ c.kind = 3 := by
 unfold qbm at h;split at h
 ·exact .inl (by assumption)
 ·split at h
  ·exact .inr (.inl (by assumption))
  ·split at h
   ·exact .inr (.inr (by assumption))
   ·cases h
theorem qt9 {k : Nat} {c : Ent} (hk : k ≤ 80) : qmx k c = qc0 k c := by
 unfold qmx qc0;have e80 : decide (k < 80) = !decide (k = 80) := by
  by_cases h : k = 80
  ·rw [decide_eq_true h, decide_eq_false (by omega)]; rfl
  ·rw [decide_eq_false h, decide_eq_true (by omega)]; rfl
 rw [e80];by_cases h4 : c.kind = 4
 ·have hg : qbm c = false := by
   cases hg : qbm c
   ·rfl
   ·rcases qhp hg with h | h | h <;> omega
  have hm : qmf c = (decide (c.mode = 0) && c.data.isEmpty) := by unfold qmf; rw [decide_eq_true h4]; simp
  rw [if_pos h4, hg, hm, decide_eq_false (by omega : ¬ c.kind = 5)];cases decide (k = 80) <;> cases qa3 c.path <;> cases c.path.isEmpty <;> cases decide (c.mode = 0) <;> cases c.data.isEmpty <;> rfl
 ·rw [if_neg h4]
  by_cases h5 : c.kind = 5
  ·have hg : qbm c = false := by
    cases hg : qbm c
    ·rfl
    ·rcases qhp hg with h | h | h <;> omega
   have hm : qmf c = (decide (c.mode = 0) && c.data.isEmpty) := by unfold qmf; rw [decide_eq_true h5]; simp
   rw [if_pos h5, hg, hm, decide_eq_true h5];cases decide (k = 80) <;> cases qa3 c.path <;> cases c.path.isEmpty <;> cases decide (c.mode = 0) <;> cases c.data.isEmpty <;> rfl
  ·have hm : qmf c = false := by unfold qmf; rw [decide_eq_false h4, decide_eq_false h5]; rfl
   rw [if_neg h5, hm, decide_eq_false h5];cases decide (k = 80) <;> cases qa3 c.path <;> cases c.path.isEmpty <;> cases qbm c <;> rfl
structure Nd where
 kind : Int
 mode : Int
 data : List UInt8
 deriving DecidableEq
abbrev Pth := List (List UInt8)
abbrev qaf := Pth → Option Nd
structure IsTree (F : qaf) : Prop where
 up : ∀ p e, (F (p ++ [e])).isSome = true → ∃ x, F p = some x ∧ x.kind = 1
 root : ∃ x, F [] = some x ∧ x.kind = 1
theorem IsTree.pre {F : qaf} (h : IsTree F) (p q : Pth) (hp : F p = none) : F (p ++ q) = none := by
 suffices hh : ∀ n (q : Pth), q.length = n → F (p ++ q) = none from hh _ q rfl
 intro n;induction n with
 | zero => intro q hq; rw [List.eq_nil_of_length_eq_zero hq, List.append_nil]; exact hp
 | succ n ih =>
  intro q hq;rcases List.eq_nil_or_concat q with rfl | ⟨q, e, rfl⟩
  ·simp at hq
  ·simp only [List.concat_eq_append] at hq ⊢
   cases hF : F (p ++ (q ++ [e])) with
   | none => rfl
   | some x =>
    obtain ⟨y, hy, _⟩ := h.up (p ++ q) e (by rw [List.append_assoc, hF]; rfl);rw [ih q (by simpa using hq)] at hy; cases hy
def qgc : qaf := fun p => if p = [] then some ⟨1, 493, []⟩ else none
theorem qsa : IsTree qgc := by
 refine ⟨fun p e h => ?_, ⟨_, rfl, rfl⟩⟩;unfold qgc at h;rw [if_neg (by simp)] at h; cases h
def qak (F : qaf) (p : Pth) : Bool := match F p with | some x => decide (x.kind = 1) | none => false
theorem qai {F : qaf} {p : Pth} : qak F p = true ↔ ∃ x, F p = some x ∧ x.kind = 1 := by
 unfold qak;cases h : F p with
 | none => simp
 | some x => simp
def putF (F : qaf) (p : Pth) (x : Nd) : qaf := fun q => if q = p then some x else if p <+: q then (if x.kind = 1 ∧ qak F p = true then F q else none) else F q
def cutF (F : qaf) (p : Pth) : qaf := fun q => if p <+: q then none else F q
def qdg (F : qaf) (p : Pth) : qaf := fun q => if p <+: q ∧ q ≠ p then none else F q
theorem qdl {p q : Pth} {e : List UInt8} (h : p <+: q ++ [e]) : p <+: q ∨ p = q ++ [e] := by
 obtain ⟨r, hr⟩ := h;rcases List.eq_nil_or_concat r with rfl | ⟨r, x, rfl⟩
 ·rw [List.append_nil] at hr; exact .inr hr
 ·simp only [List.concat_eq_append] at hr
  rw [← List.append_assoc] at hr;obtain ⟨h1, h2⟩ := List.append_inj' hr rfl;exact .inl ⟨r, h1⟩
theorem qxe {F : qaf} (h : IsTree F) (d : Pth) (e : List UInt8) (x : Nd) (hd : qak F d = true) : IsTree (putF F (d ++ [e]) x) := by
 obtain ⟨y, hy, hk⟩ := qai.1 hd;have hdne : ∀ q : Pth, d ++ [e] <+: q → q ≠ d := by
  rintro q ⟨r, rfl⟩ he;have := congrArg List.length he; simp at this
 refine ⟨fun p f hf => ?_, ?_⟩
 ·unfold putF at hf ⊢
  by_cases e1 : p ++ [f] = d ++ [e]
  ·obtain ⟨rfl, _⟩ := List.append_inj' e1 rfl
   rw [if_neg (by intro e2; have := congrArg List.length e2; simp at this), if_neg (fun hp => hdne _ hp rfl)];exact ⟨y, hy, hk⟩
  ·rw [if_neg e1] at hf
   by_cases e2 : d ++ [e] <+: p ++ [f]
   ·rw [if_pos e2] at hf
    have e3 : d ++ [e] <+: p := by
     rcases qdl e2 with h3 | h3
     ·exact h3
     ·exact absurd h3.symm e1
    by_cases e4 : x.kind = 1 ∧ qak F (d ++ [e]) = true
    ·rw [if_pos e4] at hf
     by_cases e5 : p = d ++ [e]
     ·rw [if_pos e5]; exact ⟨x, rfl, e4.1⟩
     ·rw [if_neg e5, if_pos e3, if_pos e4]; exact h.up p f hf
    ·rw [if_neg e4] at hf; cases hf
   ·rw [if_neg e2] at hf
    have e3 : ¬ d ++ [e] <+: p := fun hp => e2 (hp.trans (List.prefix_append _ _))
    rw [if_neg (show ¬ p = d ++ [e] from fun e5 => e3 (e5 ▸ List.prefix_rfl)), if_neg e3];exact h.up p f hf
 ·obtain ⟨r, hr, hrk⟩ := h.root
  unfold putF;rw [if_neg (by simp), if_neg (by rintro ⟨t, ht⟩; have := congrArg List.length ht; simp at this)];exact ⟨r, hr, hrk⟩
theorem qy0 {F : qaf} (h : IsTree F) (p : Pth) (hp : p ≠ []) : IsTree (cutF F p) := by
 refine ⟨fun q f hf => ?_, ?_⟩
 ·unfold cutF at hf ⊢
  by_cases e : p <+: q ++ [f]
  ·rw [if_pos e] at hf; cases hf
  ·rw [if_neg e] at hf
   rw [if_neg (fun h2 => e (h2.trans (List.prefix_append _ _)))];exact h.up q f hf
 ·obtain ⟨r, hr, hrk⟩ := h.root
  unfold cutF;rw [if_neg (by rw [List.prefix_nil]; exact hp)];exact ⟨r, hr, hrk⟩
theorem qsi {F : qaf} (h : IsTree F) (p : Pth) : IsTree (qdg F p) := by
 refine ⟨fun q f hf => ?_, ?_⟩
 ·unfold qdg at hf ⊢
  by_cases e : p <+: q ++ [f] ∧ q ++ [f] ≠ p
  ·rw [if_pos e] at hf; cases hf
  ·rw [if_neg e] at hf
   have e2 : ¬ (p <+: q ∧ q ≠ p) := fun ⟨h1, _⟩ => e ⟨h1.trans (List.prefix_append _ _), fun h3 => by
    have h4 := h1.length_le; have h5 := congrArg List.length h3; simp at h5; omega⟩
   rw [if_neg e2]; exact h.up q f hf
 ·obtain ⟨r, hr, hrk⟩ := h.root
  unfold qdg;rw [if_neg (by rintro ⟨h1, h2⟩; exact h2 (List.prefix_nil.1 h1).symm)];exact ⟨r, hr, hrk⟩
def ndOf (x : Ent) : Nd := ⟨x.kind, x.mode, x.data⟩
def layF (F : qaf) (l : List Ent) : qaf := l.foldl (fun F e => putF F (qaa e.path) (ndOf e)) F
def qa0 (l : List Ent) : qaf := layF qgc l
theorem qlj (F : qaf) (l : List Ent) (e : Ent) : layF F (l ++ [e]) = putF (layF F l) (qaa e.path) (ndOf e) := by unfold layF; rw [List.foldl_append]; rfl
theorem qkw (l : List Ent) (k : Nat) (h : k < l.length) : qa0 (l.take (k + 1)) = putF (qa0 (l.take k)) (qaa l[k].path) (ndOf l[k]) := by
 rw [List.take_succ_eq_append_getElem h]; exact qlj _ _ _
def qcb (l : List Ent) (k : Nat) : Bool := match l[k]? with
 | none => false
 | some c => decide (k = 40) || c.path.isEmpty || !qa3 c.path || !qbm c || (match l[k - 1]? with | some x => decide (0 < k) && decide (0 ≤ qar (qaa x.path) (qaa c.path)) | none => false) || !qak (qa0 (l.take k)) (qaa c.path).dropLast
theorem qcq {l : List Ent} {k : Nat} {c : Ent} (h : l[k]? = some c) : qcb l k = (decide (k = 40) || c.path.isEmpty || !qa3 c.path || !qbm c || (match l[k - 1]? with | some x => decide (0 < k) && decide (0 ≤ qar (qaa x.path) (qaa c.path)) | none => false) || !qak (qa0 (l.take k)) (qaa c.path).dropLast) := by unfold qcb; rw [h]
def octB (n : Nat) : List UInt8 := if n < 8 then [UInt8.ofNat (48 + n)] else octB (n / 8) ++ [UInt8.ofNat (48 + n % 8)]
theorem qep {n : Nat} (h : n < 8) : octB n = [UInt8.ofNat (48 + n)] := by rw [octB, if_pos h]
theorem qny {n : Nat} (h : ¬ n < 8) : octB n = octB (n / 8) ++ [UInt8.ofNat (48 + n % 8)] := by rw [octB, if_neg h]
theorem qs5 (n : Nat) : 0 < (octB n).length := by
 by_cases h : n < 8
 ·rw [qep h]; simp
 ·rw [qny h]; simp
theorem qke (n : Nat) (k : Nat) (h : n < 8 ^ (k + 1)) : (octB n).length ≤ k + 1 := by
 induction k generalizing n with
 | zero => rw [qep (by simpa using h)]; simp
 | succ k ih =>
  by_cases h8 : n < 8
  ·rw [qep h8]; simp
  ·rw [qny h8]
   have := ih (n / 8) (by rw [Nat.div_lt_iff_lt_mul (by omega)]; rw [Nat.pow_succ] at h; exact h);simp only [List.length_append, List.length_singleton]; omega
def filB (s : List UInt8) (n : Nat) : List UInt8 := s ++ List.replicate (n - s.length) 0
theorem qdw (s : List UInt8) (n : Nat) (h : s.length ≤ n) : (filB s n).length = n := by simp [filB]; omega
def digB (v n : Nat) : List UInt8 := List.replicate (n - (octB v).length) 48 ++ octB v ++ [0]
theorem qkj (v n : Nat) (h : (octB v).length ≤ n) : (digB v n).length = n + 1 := by simp [digB]; omega
def namB (c : Ent) : List UInt8 :=
 if c.kind = 1 then c.path ++ [47] else if c.kind = 4 then inB (upB c.path).1 ([46, 119, 104, 46] ++ (upB c.path).2)
 else if c.kind = 5 then inB c.path [46, 119, 104, 46, 46, 119, 104, 46, 46, 111, 112, 113] else c.path
def qgp (s : List UInt8) (i : Nat) : Nat :=
 if h : i < s.length then (if s[i] = 47 ∧ s.length - i - 1 ≤ 100 then i else qgp s (i + 1)) else s.length
termination_by s.length - i
theorem qq4 {s : List UInt8} {i : Nat} (h : i < s.length) (h1 : s[i] = 47) (h2 : s.length - i - 1 ≤ 100) : qgp s i = i := by rw [qgp, dif_pos h, if_pos ⟨h1, h2⟩]
theorem qq3 {s : List UInt8} {i : Nat} (h : i < s.length) (h1 : ¬ (s[i] = 47 ∧ s.length - i - 1 ≤ 100)) : qgp s i = qgp s (i + 1) := by rw [qgp, dif_pos h, if_neg h1]
def splB (s : List UInt8) : List UInt8 × List UInt8 :=
 if s.length ≤ 100 then ([], s) else if qgp s 0 < s.length then (s.take (qgp s 0), s.drop (qgp s 0 + 1)) else ([], s)
def sumB (l : List UInt8) : Nat := (l.map UInt8.toNat).sum
theorem qwo (l : List UInt8) : sumB l ≤ l.length * 255 := by
 induction l with
 | nil => simp [sumB]
 | cons c r ih => have := c.toNat_lt; simp only [sumB, List.map_cons, List.sum_cons, List.length_cons] at *; omega
theorem qwn (l : List UInt8) (k : Nat) (h : k < l.length) : sumB (l.take (k + 1)) = sumB (l.take k) + l[k].toNat := by
 rw [List.take_succ_eq_append_getElem h]; simp only [sumB, List.map_append, List.sum_append, List.map_cons, List.map_nil, List.sum_cons, List.sum_nil, Nat.add_zero]
theorem qsv (l m : List UInt8) : sumB (l ++ m) = sumB l + sumB m := by simp [sumB]
def q03 (c : Ent) : UInt8 := if c.kind = 1 then 53 else if c.kind = 3 then 50 else 48
def q0l (c : Ent) : List UInt8 := if c.kind = 3 then c.data else []
def qvv (c : Ent) : List UInt8 := if c.kind = 2 then c.data else []
def qr0 (c : Ent) : List UInt8 :=
 filB (splB (namB c)).2 100 ++ digB c.mode.toNat 7 ++ digB 0 7 ++ digB 0 7 ++ digB (qvv c).length 11 ++ digB 0 11
def qon (c : Ent) : List UInt8 :=
 q03 c :: filB (q0l c) 100 ++ [117, 115, 116, 97, 114, 0, 48, 48] ++ filB [] 64 ++ digB 0 7 ++ digB 0 7 ++ filB (splB (namB c)).1 155 ++ filB [] 12
def totB (c : Ent) : Nat := 256 + sumB (qr0 c) + sumB (qon c)
def entB (c : Ent) : List UInt8 :=
 qr0 c ++ digB (totB c) 6 ++ [32] ++ qon c ++ qvv c ++ filB [] ((512 - (qvv c).length % 512) % 512)
def qnw (l : List Ent) : List UInt8 := (l.map entB).flatten ++ filB [] 1024
def Fit (c : Ent) : Prop := qa3 c.path = true ∧ (qbm c = true ∨ qmf c = true) ∧ (c.path = [] → c.kind = 5)
theorem qw2 {i : Nat} {c : Ent} (h : qc0 i c = true) : Fit c := by
 unfold qc0 at h;simp only [Bool.not_or, Bool.not_not, Bool.and_eq_true, Bool.not_and, Bool.or_eq_true, Bool.not_eq_true', decide_eq_false_iff_not] at h;obtain ⟨⟨⟨_, h1⟩, h2⟩, h3⟩ := h;refine ⟨h1, ?_, fun e => ?_⟩
 ·rcases h2 with h2 | h2
  ·exact .inl (by simpa using h2)
  ·exact .inr (by simpa using h2)
 ·rcases h3 with h3 | h3
  ·rw [e] at h3; cases h3
  ·simpa using h3
theorem qtk {l : List Ent} {i : Nat} {c : Ent} (h : l[i]? = some c) (hb : barR l i = false) : Fit c := by
 refine qw2 (i := i) ?_;cases hs : qc0 i c with
 | true => rfl
 | false => rw [qfu h hs] at hb; cases hb
structure NameE (es : List (List UInt8)) : Prop where
 ne : es ≠ []
 each : ∀ e ∈ es, (47 : UInt8) ∉ e ∧ e.length ≤ 64
 inner : ∀ k (_ : k + 1 < es.length), es[k] ≠ []
 first : es.head? ≠ some []
def qtd (c : Ent) : List (List UInt8) :=
 if c.kind = 1 then qaa c.path ++ [[]] else if c.kind = 4 then (qaa c.path).dropLast ++ [[46, 119, 104, 46] ++ (qaa c.path).getLastD []]
 else if c.kind = 5 then qaa c.path ++ [[46, 119, 104, 46, 46, 119, 104, 46, 46, 111, 112, 113]] else qaa c.path
theorem qba {e : List UInt8} (h : qa5 e = true) : e ≠ [] ∧ e.length ≤ 60 ∧ (47 : UInt8) ∉ e := by
 unfold qa5 at h;simp only [Bool.and_eq_true, Bool.not_eq_true', decide_eq_true_eq] at h;obtain ⟨⟨⟨⟨⟨h1, h2⟩, _⟩, _⟩, _⟩, h6⟩ := h;refine ⟨(by intro e0; rw [e0] at h1; cases h1), h2, fun hm => ?_⟩;have := List.all_eq_true.1 h6 _ hm;revert this; decide
theorem qa9 {p : List UInt8} (h : qa3 p = true) : p.length ≤ 170 ∧ ∀ e ∈ qaa p, qa5 e = true := by
 unfold qa3 at h;simp only [Bool.and_eq_true, decide_eq_true_eq] at h;exact ⟨h.1.1, fun e he => List.all_eq_true.1 h.2 e he⟩
theorem qbi {p : List UInt8} (h : p ≠ []) : qaa p ≠ [] := by unfold qaa; rw [if_neg h]; exact qic _ _
theorem qa1 (p : List UInt8) : qae (qaa p) = p := by
 unfold qaa; split
 ·rename_i h; rw [h]; rfl
 ·exact qix p
theorem qlm {l : List (List UInt8)} (h : ∀ e ∈ l, e ≠ []) (hn : l ≠ []) : qae l ≠ [] := by
 cases l with
 | nil => exact absurd rfl hn
 | cons x r =>
  cases r with
  | nil => exact h x (by simp)
  | cons y s => rw [qae]; intro e; have := congrArg List.length e; simp at this
theorem qkg {l : List (List UInt8)} {x : List UInt8} (h : ∀ e ∈ l, e ≠ []) (hx : x ≠ []) : inB (qae l) x = qae (l ++ [x]) := by
 unfold inB;by_cases hl : l = []
 ·subst hl; rw [if_pos (.inl rfl)]; rfl
 ·rw [if_neg (by rintro (e | e); exact qlm h hl e; exact hx e), qho _ _ hl]
theorem q1i {l : List (List UInt8)} (h : ∀ e ∈ l, (47 : UInt8) ∉ e) (hl : l ≠ []) : cutB 47 (qae l) = l := by
 induction l with
 | nil => exact absurd rfl hl
 | cons x r ih =>
  cases r with
  | nil => exact qly 47 x (h x (by simp))
  | cons y s =>
   rw [qae, qvw 47 x _ (h x (by simp)), ih (fun e he => h e (by simp only [List.mem_cons] at he ⊢; exact .inr he)) (by simp)]
theorem qew {l : List (List UInt8)} (h : ∀ e ∈ l, e ≠ [] ∧ (47 : UInt8) ∉ e) : qaa (qae l) = l := by
 by_cases hl : l = []
 ·subst hl; rfl
 ·unfold qaa
  rw [if_neg (qlm (fun e he => (h e he).1) hl)];exact q1i (fun e he => (h e he).2) hl
theorem qvq {c : Ent} (h : Fit c) : namB c = qae (qtd c) ∧ NameE (qtd c) := by
 obtain ⟨hp, hg, h0⟩ := h;obtain ⟨hl, he⟩ := qa9 hp;have he2 : ∀ e ∈ qaa c.path, e ≠ [] ∧ e.length ≤ 60 ∧ (47 : UInt8) ∉ e := fun e hm => qba (he e hm)
 have hcat : ∀ (l : List (List UInt8)) (x : List UInt8), (∀ e ∈ l, e ≠ [] ∧ e.length ≤ 60 ∧ (47 : UInt8) ∉ e) → (47 : UInt8) ∉ x → x.length ≤ 64 → (l = [] → x ≠ []) → NameE (l ++ [x]) := by
  intro l x h1 h2 h3 h4;refine ⟨by simp, ?_, ?_, ?_⟩
  ·intro e hm
   rcases List.mem_append.1 hm with hm | hm
   ·have := h1 e hm; exact ⟨this.2.2, by omega⟩
   ·rw [List.mem_singleton.1 hm]; exact ⟨h2, h3⟩
  ·intro k hk
   have hk2 : k < l.length := by simp at hk; omega
   rw [List.getElem_append_left hk2];exact (h1 _ (List.getElem_mem hk2)).1
  ·cases l with
   | nil => simpa using h4 rfl
   | cons a r => simpa using (h1 a (by simp)).1
 unfold namB qtd;by_cases k1 : c.kind = 1
 ·rw [if_pos k1, if_pos k1]
  have hpn : c.path ≠ [] := fun e => by rw [h0 e] at k1; cases k1
  refine ⟨?_, hcat _ _ he2 (by simp) (by simp) (fun e => absurd e (qbi hpn))⟩;rw [qho _ _ (qbi hpn), qa1]
 ·rw [if_neg k1, if_neg k1]
  by_cases k4 : c.kind = 4
  ·rw [if_pos k4, if_pos k4]
   have hpn : c.path ≠ [] := fun e => by rw [h0 e] at k4; cases k4
   have hd : ∀ e ∈ (qaa c.path).dropLast, e ≠ [] ∧ e.length ≤ 60 ∧ (47 : UInt8) ∉ e := fun e hm => he2 e (List.dropLast_subset _ hm)
   have hlast : (qaa c.path).getLastD [] ∈ qaa c.path := by
    have hne := qbi hpn;rw [List.getLastD_eq_getLast?, List.getLast?_eq_some_getLast hne];exact List.getLast_mem hne
   obtain ⟨g1, g2, g3⟩ := he2 _ hlast;refine ⟨?_, hcat _ _ hd (by rw [List.mem_append]; rintro (hm | hm); revert hm; decide; exact g3 hm) (by simp only [List.length_append, List.length_cons, List.length_nil]; omega) (fun _ e => by have := congrArg List.length e; simp at this)⟩;unfold upB;exact qkg (fun e hm => (hd e hm).1) (by simp)
  ·rw [if_neg k4, if_neg k4]
   by_cases k5 : c.kind = 5
   ·rw [if_pos k5, if_pos k5]
    refine ⟨?_, hcat _ _ he2 (by decide) (by decide) (fun _ => by simp)⟩;have := qkg (l := qaa c.path) (x := [46, 119, 104, 46, 46, 119, 104, 46, 46, 111, 112, 113]) (fun e hm => (he2 e hm).1) (by simp);rw [qa1] at this; exact this
   ·rw [if_neg k5, if_neg k5]
    have hpn : c.path ≠ [] := fun e => k5 (h0 e)
    refine ⟨(qa1 _).symm, qbi hpn, fun e hm => ⟨(he2 e hm).2.2, by have := he2 e hm; omega⟩, fun k hk => (he2 _ (List.getElem_mem _)).1, ?_⟩;intro e;exact (he2 [] (List.mem_of_mem_head? e)).1 rfl
theorem qk4 (s : List UInt8) (q i : Nat) (hq : q ≤ i) (hi : i < s.length) (h1 : s[i] = 47) (h2 : s.length - i - 1 ≤ 100) (hb : ∀ j (hj : j < s.length), q ≤ j → j < i → ¬ (s[j] = 47 ∧ s.length - j - 1 ≤ 100)) : qgp s q = i := by
 by_cases e : q = i
 ·subst e; exact qq4 hi h1 h2
 ·rw [qq3 (by omega) (hb q (by omega) (Nat.le_refl _) (by omega))]
  exact qk4 s (q + 1) i (by omega) hi h1 h2 (fun j hj h3 h4 => hb j hj (by omega) h4)
termination_by i - q
theorem qdr (es : List (List UInt8)) (k : Nat) (h0 : 0 < k) (hk : k < es.length) : qae es = qae (es.take k) ++ 47 :: qae (es.drop k) := by
 conv => lhs; rw [← List.take_append_drop k es]
 refine qiy _ _ ?_ ?_
 ·intro e; have := congrArg List.length e; rw [List.length_take, List.length_nil] at this; omega
 ·intro e; have := congrArg List.length e; rw [List.length_drop, List.length_nil] at this; omega
theorem qjp (es : List (List UInt8)) (k : Nat) (hk : k + 1 < es.length) : qae (es.drop k) = es[k] ++ 47 :: qae (es.drop (k + 1)) := by
 rw [List.drop_eq_getElem_cons (by omega)];have : es.drop (k + 1) = es[k + 1] :: es.drop (k + 2) := List.drop_eq_getElem_cons hk;rw [this, qae]
theorem qg3 (es : List (List UInt8)) (k : Nat) (hk : k + 1 = es.length) : qae (es.drop k) = es[k] := by
 rw [List.drop_eq_getElem_cons (by omega), show k + 1 = es.length from hk, List.drop_length]; rfl
theorem qmt {es : List (List UInt8)} (hE : NameE es) (k : Nat) (h0 : 0 < k) (hk : k < es.length) (h1 : 100 < (qae (es.drop (k - 1))).length) (h2 : (qae (es.drop k)).length ≤ 100) :
 splB (qae es) = (qae (es.take k), qae (es.drop k)) := by
 have e := qdr es k h0 hk;have hlen : (qae es).length = (qae (es.take k)).length + 1 + (qae (es.drop k)).length := by rw [e]; simp; omega
 obtain ⟨m, rfl⟩ : ∃ m, k = m + 1 := ⟨k - 1, by omega⟩;rw [Nat.add_sub_cancel] at h1;have hm := qm5 es m (by omega);have hd := qjp es m hk;have hgt : 100 < (qae es).length := by
  by_cases hm0 : m = 0
  ·subst hm0; rw [List.drop_zero] at h1; exact h1
  ·rw [qdr es m (by omega) (by omega)]; simp; omega
 have hat : qgp (qae es) 0 = (qae (es.take (m + 1))).length := by
  refine qk4 _ 0 _ (Nat.zero_le _) (by omega) ?_ (by omega) ?_
  ·simp only [e]; rw [List.getElem_append_right (Nat.le_refl _)]; simp
  ·intro j hj _ hlt ⟨hc, hle⟩
   have hes : ∀ e' ∈ es, (47 : UInt8) ∉ e' := fun e' he => (hE.each e' he).1
   have hcj : (qae (es.take (m + 1)))[j] = 47 := by
    simp only [e] at hc; rw [List.getElem_append_left hlt] at hc; exact hc
   by_cases hm0 : m = 0
   ·subst hm0
    rw [if_pos rfl] at hm;refine hes es[0] (List.getElem_mem _) ?_;rw [← hm, ← hcj]; exact List.getElem_mem _
   ·rw [if_neg hm0] at hm
    have hld : (qae (es.drop m)).length = es[m].length + 1 + (qae (es.drop (m + 1))).length := by rw [hd]; simp; omega
    have hlt2 : (qae (es.take (m + 1))).length = (qae (es.take m)).length + 1 + es[m].length := by rw [hm]; simp; omega
    have hj2 : (qae (es.take m)).length < j := by omega
    simp only [hm] at hcj;rw [List.getElem_append_right (by omega), List.getElem_cons] at hcj;rw [dif_neg (by omega)] at hcj;exact hes es[m] (List.getElem_mem _) (hcj ▸ List.getElem_mem _)
 unfold splB;rw [if_neg (by omega), hat, if_pos (by omega)];conv => lhs; rw [e]
 simp
theorem qms {s : List UInt8} (h : s.length ≤ 100) : splB s = ([], s) := by unfold splB; rw [if_pos h]
theorem qou {es : List (List UInt8)} (hE : NameE es) (hl : (qae es).length ≤ 190) : (splB (qae es)).1.length ≤ 155 ∧ (splB (qae es)).2.length ≤ 100 := by
 by_cases h : (qae es).length ≤ 100
 ·rw [qms h]; exact ⟨by simp, h⟩
 ·have hn : 0 < es.length := List.length_pos_iff.2 hE.ne
  have key : ∀ n k, es.length - k = n → k < es.length → 100 < (qae (es.drop k)).length → ∃ q, 0 < q ∧ q < es.length ∧ 100 < (qae (es.drop (q - 1))).length ∧ (qae (es.drop q)).length ≤ 100 := by
   intro n;induction n with
   | zero => intro k h1 h2; omega
   | succ n ih =>
    intro k h1 h2 h3;by_cases hk : k + 1 < es.length
    ·by_cases h4 : (qae (es.drop (k + 1))).length ≤ 100
     ·exact ⟨k + 1, by omega, hk, by rw [Nat.add_sub_cancel]; exact h3, h4⟩
     ·exact ih (k + 1) (by omega) hk (by omega)
    ·rw [qg3 es k (by omega)] at h3
     have := (hE.each es[k] (List.getElem_mem _)).2; omega
  obtain ⟨q, h1, h2, h3, h4⟩ := key _ 0 rfl hn (by rw [List.drop_zero]; omega);rw [qmt hE q h1 h2 h3 h4];refine ⟨?_, h4⟩;have e := qdr es q h1 h2;have hlen : (qae es).length = (qae (es.take q)).length + 1 + (qae (es.drop q)).length := by rw [e]; simp; omega
  have hd := qjp es (q - 1) (by omega);have he := (hE.each es[q - 1] (List.getElem_mem _)).2;rw [hd] at h3;simp only [show q - 1 + 1 = q by omega, List.length_append, List.length_cons] at h3;show (qae (es.take q)).length ≤ 155
  omega
theorem q0g {c : Ent} (h : Fit c) : (namB c).length ≤ 190 := by
 obtain ⟨hp, _, h0⟩ := h;obtain ⟨hl, _⟩ := qa9 hp;have hin : ∀ a b : List UInt8, (inB a b).length ≤ a.length + b.length + 1 := by
  intro a b; unfold inB; split <;> simp <;> omega
 unfold namB; split
 ·simp; omega
 ·split
  ·rename_i _ k4
   have hpn : c.path ≠ [] := fun e => by rw [h0 e] at k4; cases k4
   have h1 := hin (upB c.path).1 ([46, 119, 104, 46] ++ (upB c.path).2);have h2 : (upB c.path).1.length + (upB c.path).2.length ≤ c.path.length := by
    have hj := qa1 c.path;have hne := qbi hpn;have hdl : qaa c.path = (qaa c.path).dropLast ++ [(qaa c.path).getLastD []] := by
     rw [List.getLastD_eq_getLast?, List.getLast?_eq_some_getLast hne]; exact (List.dropLast_concat_getLast hne).symm
    unfold upB;simp only;by_cases hd0 : (qaa c.path).dropLast = []
    ·rw [hd0] at hdl ⊢
     rw [hdl] at hj;simp only [List.nil_append] at hj;have := congrArg List.length hj;simp only [qae] at this;simp [qae]
     rw [List.getLastD_eq_getLast?] at this;omega
    ·rw [hdl, qho _ _ hd0] at hj
     have := congrArg List.length hj;simp only [List.length_append, List.length_cons] at this;omega
   simp only [List.length_append, List.length_cons, List.length_nil] at h1; omega
  ·split
   ·have := hin c.path [46, 119, 104, 46, 46, 119, 104, 46, 46, 111, 112, 113]; simp at this; omega
   ·omega
def qbc (l : List Ent) (p : List UInt8) : Int := if p = [] then 1 else match l.find? (fun e => decide (e.path = p)) with | some e => e.kind | none => 0
theorem qen {p q : List UInt8} (h : qaa p = qaa q) : p = q := by rw [← qa1 p, h, qa1 q]
structure Lists (l : List Ent) (F : qaf) : Prop where
 each : ∀ e ∈ l, qa3 e.path = true ∧ e.path ≠ [] ∧ qbm e = true
 mem : ∀ e ∈ l, F (qaa e.path) = some (ndOf e)
 only : ∀ p x, F p = some x → p = [] ∨ ∃ e ∈ l, qaa e.path = p ∧ ndOf e = x
 root : F [] = some ⟨1, 493, []⟩
 rise : l.Pairwise fun a b => qal (qaa a.path) (qaa b.path) < 0
theorem Lists.nil : Lists [] qgc := by
 refine ⟨fun e he => by simp at he, fun e he => by simp at he, fun p x hx => ?_, rfl, List.Pairwise.nil⟩;unfold qgc at hx;split at hx
 ·rename_i h; exact .inl h
 ·cases hx
theorem qnx {a b : List (List UInt8)} (h : a <+: b) (hne : b ≠ a) : qal b a > 0 := by
 induction a generalizing b with
 | nil =>
  cases b with
  | nil => exact absurd rfl hne
  | cons y ys => simp only [qal, List.length_nil, List.length_cons]; omega
 | cons x xs ih =>
  obtain ⟨r, rfl⟩ := h;rw [List.cons_append, qal, if_neg (List.lt_irrefl x), if_neg (List.lt_irrefl x)];exact ih ⟨r, rfl⟩ (fun e => hne (by rw [List.cons_append, e]))
theorem qh5 {a b : List (List UInt8)} (h : qal a b < 0) : 0 < qal b a := by
 induction a generalizing b with
 | nil =>
  cases b with
  | nil => simp [qal] at h
  | cons y ys => simp only [qal, List.length_nil, List.length_cons]; omega
 | cons x xs ih =>
  cases b with
  | nil => simp only [qal, List.length_nil, List.length_cons] at h; omega
  | cons y ys =>
   rw [qal] at h ⊢;by_cases hxy : x < y
   ·rw [if_neg (fun h2 => List.lt_irrefl x (List.lt_trans hxy h2)), if_pos hxy]; omega
   ·rw [if_neg hxy] at h
    by_cases hyx : y < x
    ·rw [if_pos hyx] at h; omega
    ·rw [if_neg hyx] at h
     rw [if_neg hyx, if_neg hxy]; exact ih h
theorem Lists.snoc {l : List Ent} {F : qaf} (h : Lists l F) (c : Ent) (hp : qa3 c.path = true) (hne : c.path ≠ []) (hg : qbm c = true) (hlt : ∀ e ∈ l, qal (qaa e.path) (qaa c.path) < 0) : Lists (l ++ [c]) (putF F (qaa c.path) (ndOf c)) := by
 have hLne := qbi hne;have hun : ∀ q, qaa c.path <+: q → q ≠ qaa c.path → F q = none := by
  intro q hq hqne;cases hF : F q with
  | none => rfl
  | some x =>
   rcases h.only q x hF with rfl | ⟨e, he, rfl, _⟩
   ·exact absurd (List.prefix_nil.1 hq) hLne
   ·have h1 := hlt e he
    have h2 := qnx hq hqne;omega
 have hself : F (qaa c.path) = none := by
  cases hF : F (qaa c.path) with
  | none => rfl
  | some x =>
   rcases h.only _ x hF with he | ⟨e, he, hq, _⟩
   ·exact absurd he hLne
   ·have h1 := hlt e he
    rw [hq, qck] at h1; omega
 have hput : ∀ q, q ≠ qaa c.path → putF F (qaa c.path) (ndOf c) q = F q := by
  intro q hq;unfold putF;rw [if_neg hq];by_cases hpq : qaa c.path <+: q
  ·rw [if_pos hpq, hun q hpq hq]; split <;> rfl
  ·rw [if_neg hpq]
 have hsame : putF F (qaa c.path) (ndOf c) (qaa c.path) = some (ndOf c) := by unfold putF; rw [if_pos rfl]
 refine ⟨fun e he => ?_, fun e he => ?_, fun p x hx => ?_, ?_, ?_⟩
 ·rcases List.mem_append.1 he with he | he
  ·exact h.each e he
  ·rw [List.mem_singleton.1 he]; exact ⟨hp, hne, hg⟩
 ·rcases List.mem_append.1 he with he | he
  ·rw [hput _ (fun e2 => by have := hlt e he; rw [e2, qck] at this; omega)]
   exact h.mem e he
  ·rw [List.mem_singleton.1 he]; exact hsame
 ·by_cases e1 : p = qaa c.path
  ·rw [e1, hsame] at hx
   exact .inr ⟨c, by simp, e1.symm, Option.some.inj hx⟩
  ·rw [hput p e1] at hx
   rcases h.only p x hx with h1 | ⟨e, he, h1⟩
   ·exact .inl h1
   ·exact .inr ⟨e, by simp [he], h1⟩
 ·rw [hput [] hLne.symm]; exact h.root
 ·rw [List.pairwise_append]
  exact ⟨h.rise, by simp, fun x hx y hy => by rw [List.mem_singleton.1 hy]; exact hlt x hx⟩
theorem qz5 {l : List Ent} {c x : Ent} (h : l.Pairwise fun a b => qal (qaa a.path) (qaa b.path) < 0) (hx : l.getLast? = some x) (hc : qal (qaa x.path) (qaa c.path) < 0) : ∀ e ∈ l, qal (qaa e.path) (qaa c.path) < 0 := by
 intro e he;obtain ⟨q, rfl⟩ : ∃ q, l = q ++ [x] := by
  rcases List.eq_nil_or_concat l with rfl | ⟨q, y, rfl⟩
  ·simp at hx
  ·rw [List.concat_eq_append] at hx ⊢
   rw [List.getLast?_concat] at hx;exact ⟨q, by rw [Option.some.inj hx]⟩
 rcases List.mem_append.1 he with he | he
 ·exact qd5 ((List.pairwise_append.1 h).2.2 e he x (by simp)) hc
 ·rw [List.mem_singleton.1 he]; exact hc
theorem qu8 {l : List Ent} {k : Nat} (hk : k ≤ l.length) (h : ∀ j, j < k → qcb l j = false) : Lists (l.take k) (qa0 (l.take k)) := by
 induction k with
 | zero => exact Lists.nil
 | succ k ih =>
  have hlt : k < l.length := hk;have hL := ih (by omega) (fun j hj => h j (by omega));have hw := h k (by omega);have hc : l[k]? = some l[k] := List.getElem?_eq_getElem hlt;rw [qcq hc] at hw;simp only [Bool.or_eq_false_iff, Bool.not_eq_false'] at hw;obtain ⟨⟨⟨⟨⟨_, h2⟩, h3⟩, h4⟩, h5⟩, _⟩ := hw;have hne : l[k].path ≠ [] := fun e => by rw [e] at h2; cases h2
  rw [qkw l k hlt, List.take_succ_eq_append_getElem hlt];refine hL.snoc l[k] h3 hne h4 ?_;by_cases h0 : k = 0
  ·subst h0; intro e he; simp at he
  ·have hx : l[k - 1]? = some (l[k - 1]'(by omega)) := List.getElem?_eq_getElem (by omega)
   rw [hx] at h5;have h6 : ¬ (0 ≤ qar (qaa (l[k - 1]'(by omega)).path) (qaa l[k].path)) := by
    intro hc0;have h5' : (decide (0 < k) && decide (0 ≤ qar (qaa (l[k - 1]'(by omega)).path) (qaa l[k].path))) = false := h5;rw [decide_eq_true (by omega : 0 < k), decide_eq_true hc0] at h5'; cases h5'
   have h7 := (qi3 (qaa (l[k - 1]'(by omega)).path) (qaa l[k].path)).2.2.1 (by omega);refine qz5 hL.rise (x := l[k - 1]'(by omega)) ?_ h7;rw [List.getLast?_eq_getElem?, List.length_take, List.getElem?_take_of_lt (by omega), show min k l.length - 1 = k - 1 by omega, hx]
theorem qe1 {l : List Ent} {F : qaf} (h : Lists l F) (d : List UInt8) (hd : d = [] ∨ d ≠ []) : decide (qbc l d = 1) = qak F (qaa d) := by
 unfold qbc qak;by_cases h0 : d = []
 ·subst h0
  rw [if_pos rfl, show qaa ([] : List UInt8) = [] from rfl, h.root]
 ·rw [if_neg h0]
  cases hf : l.find? (fun e => decide (e.path = d)) with
  | some e =>
   have h1 := List.find?_some hf;have h2 := List.mem_of_find?_eq_some hf;have h3 : e.path = d := by simpa using h1
   rw [← h3, h.mem e h2]; rfl
  | none =>
   cases hF : F (qaa d) with
   | none => rfl
   | some x =>
    rcases h.only _ x hF with h1 | ⟨e, he, h1, _⟩
    ·exact absurd h1 (qbi h0)
    ·have := List.find?_eq_none.1 hf e he
     rw [qen h1] at this; simp at this
abbrev qgm : TypeId := 166
abbrev q4p : TypeId := 160
def mapV (x : Nd) (b : Nat) : Value := if x.kind = 1 then .map (some b) else .map none
def qrm (x : Nd) (b : Nat) : Array Value := #[.string (S []), .int .i64 x.kind, .int .i64 x.mode, .string (S x.data), mapV x b]
def qb1 (F : qaf) (a : Pth → Nat) (p : Pth) : List UInt8 → Option Nat := fun e => if (F (p ++ [e])).isSome then some (a (p ++ [e])) else none
structure TreeAt (w : World) (B N : Nat) (a m : Pth → Nat) (F : qaf) : Prop where
 tree : IsTree F
 node : ∀ p x, F p = some x → w.heap[a p]? = some (.cells (qrm x (m p)) qgm (0, 0))
 dir : ∀ p x, F p = some x → x.kind = 1 → MapIs w (m p) N (qb1 F a p)
 base : ∀ p x, F p = some x → B ≤ a p ∧ (x.kind = 1 → B ≤ m p)
 inj : ∀ p q, (F p).isSome = true → (F q).isSome = true → a p = a q → p = q
 injm : ∀ p q, qak F p = true → qak F q = true → m p = m q → p = q
theorem TreeAt.lt {w : World} {B N : Nat} {a m : Pth → Nat} {F : qaf} (h : TreeAt w B N a m F) (p : Pth) (x : Nd) (hx : F p = some x) : a p < w.heap.size ∧ (x.kind = 1 → m p < w.heap.size) :=
 ⟨(q41 (h.node p x hx)).1, fun hk => (h.dir p x hx hk).lt⟩
theorem TreeAt.keep {w w' : World} {B N : Nat} {a m : Pth → Nat} {F : qaf} (h : TreeAt w B N a m F) (hb : ∀ k, B ≤ k → k < w.heap.size → w'.heap[k]? = w.heap[k]?) : TreeAt w' B N a m F :=
 ⟨h.tree, fun p x hx => (hb _ (h.base p x hx).1 (h.lt p x hx).1).trans (h.node p x hx), fun p x hx hk => (h.dir p x hx hk).block (hb _ ((h.base p x hx).2 hk) ((h.lt p x hx).2 hk)), h.base, h.inj, h.injm⟩
theorem TreeAt.below {w w' : World} {B N : Nat} {a m : Pth → Nat} {F : qaf} (h : TreeAt w B N a m F) (hb : Below w.heap.size w w') : TreeAt w' B N a m F := h.keep fun k _ hk => hb.block k hk
theorem TreeAt.mono {w : World} {B N M : Nat} {a m : Pth → Nat} {F : qaf} (h : TreeAt w B N a m F) (hM : N ≤ M) : TreeAt w B M a m F :=
 ⟨h.tree, h.node, fun p x hx hk => (h.dir p x hx hk).mono hM, h.base, h.inj, h.injm⟩
theorem TreeAt.cells {w : World} {B N : Nat} {a m : Pth → Nat} {F : qaf} (h : TreeAt w B N a m F) (p : Pth) (x : Nd) (hx : F p = some x) :
 w.cell? ⟨a p, 0, none⟩ = some (.string (S [])) ∧ w.cell? ⟨a p, 1, none⟩ = some (.int .i64 x.kind) ∧ w.cell? ⟨a p, 2, none⟩ = some (.int .i64 x.mode) ∧ w.cell? ⟨a p, 3, none⟩ = some (.string (S x.data)) ∧ w.cell? ⟨a p, 4, none⟩ = some (mapV x (m p)) := by
 have := h.node p x hx;refine ⟨?_, ?_, ?_, ?_, ?_⟩ <;> rw [cell_of_row w _ _ _ _ _ this] <;> rfl
theorem TreeAt.look {w : World} {B N : Nat} {a m : Pth → Nat} {F : qaf} (h : TreeAt w B N a m F) (p : Pth) (x : Nd) (hx : F p = some x) (e : List UInt8) (he : e.length ≤ maxLen) :
 (Instr.lookup tMap (mapV x (m p)) (.string (S e)) false).run Tryz.prog w = .ok (qme (if (F (p ++ [e])).isSome then some (a (p ++ [e])) else none)) w := by
 unfold mapV;by_cases hk : x.kind = 1
 ·rw [if_pos hk]; exact (h.dir p x hx hk).look e he
 ·rw [if_neg hk]
  have : (F (p ++ [e])).isSome = false := by
   cases hs : (F (p ++ [e])).isSome with
   | false => rfl
   | true =>
    obtain ⟨y, hy, hk2⟩ := h.tree.up p e hs;rw [hx] at hy; obtain rfl := Option.some.inj hy; exact absurd hk2 hk
  rw [this];exact look_nil w e he
def TreeV (w : World) (t : Nat) (a : Pth → Nat) : Prop := w.cell? ⟨t, 0, none⟩ = some (.pointer (some ⟨a [], 0, none⟩))
theorem TreeV.below {w w' : World} {t : Nat} {a : Pth → Nat} (h : TreeV w t a) (hb : Below w.heap.size w w') : TreeV w' t a := (hb.cell (q40 w _ h)).trans h
def updP (a : Pth → Nat) (p : Pth) (g : Nat) : Pth → Nat := fun q => if q = p then g else a q
theorem qcc (a : Pth → Nat) (p : Pth) (g : Nat) : updP a p g p = g := by simp [updP]
theorem qa8 {a : Pth → Nat} {p q : Pth} {g : Nat} (h : q ≠ p) : updP a p g q = a q := by simp [updP, h]
theorem qeu (F : qaf) (p : Pth) (x : Nd) : putF F p x p = some x := by simp [putF]
theorem qil {F : qaf} {p q : Pth} {x : Nd} (h : ¬ p <+: q) : putF F p x q = F q := by
 unfold putF;rw [if_neg (show ¬ q = p from fun e => h (e ▸ List.prefix_rfl)), if_neg h]
theorem qdj {F : qaf} {p q : Pth} {x : Nd} (h : p <+: q) (hne : q ≠ p) : putF F p x q = if x.kind = 1 ∧ qak F p = true then F q else none := by
 unfold putF;rw [if_neg hne, if_pos h]
theorem qe9 {F : qaf} {p q : Pth} {x y : Nd} (hne : q ≠ p) (h : putF F p x q = some y) : F q = some y := by
 by_cases hp : p <+: q
 ·rw [qdj hp hne] at h
  split at h
  ·exact h
  ·cases h
 ·rw [qil hp] at h; exact h
theorem qk2 (d : Pth) (e : List UInt8) : d ++ [e] ≠ d := by intro h; have := congrArg List.length h; simp at this
theorem qk1 (d : Pth) (e : List UInt8) : ¬ d ++ [e] <+: d := by intro h; have := h.length_le; simp only [List.length_append, List.length_singleton] at this; omega
theorem TreeAt.put {w w1 w2 : World} {B N : Nat} {a m : Pth → Nat} {F : qaf} (h : TreeAt w B N a m F) (d : Pth) (e : List UInt8) (x : Nd) (hd : qak F d = true) (hB : B ≤ w.heap.size)
 (h1 : Below w.heap.size w w1) (g mb : Nat) (hg : w.heap.size ≤ g) (hnode : w1.heap[g]? = some (.cells (qrm x mb) qgm (0, 0)))
 (hmb : x.kind = 1 → (qak F (d ++ [e]) = true → mb = m (d ++ [e])) ∧ (qak F (d ++ [e]) = false → w.heap.size ≤ mb ∧ MapIs w1 mb 0 (fun _ => none)))
 (hup : MapIs w2 (m d) (N + 1) (upd (qb1 F a d) e (some g))) (h2 : w1.grownBy w2 (some (m d))) :
 TreeAt w2 B (N + 1) (updP a (d ++ [e]) g) (updP m (d ++ [e]) mb) (putF F (d ++ [e]) x) := by
 obtain ⟨y, hy, hk⟩ := qai.1 hd;have hmd := h.dir d y hy hk;have hmdlt := hmd.lt;have cellsStay : ∀ (k : Nat) (c : Array Value) (t : TypeId) (f : Nat × Nat), w.heap[k]? = some (Obj.cells c t f) → w2.heap[k]? = some (Obj.cells c t f) := by
  intro k c t f hkk;have hlt := (q41 hkk).1;have e1 := (h1.block k hlt).trans hkk;refine (h2.block k (by have := h1.size; omega) ?_).trans e1;intro he;have he2 : k = m d := Option.some.inj he;obtain ⟨D, ⟨es, clock, hm2, _⟩, _⟩ := hmd;rw [he2, hm2] at hkk; cases hkk
 have mapStay : ∀ (k n : Nat) (f : List UInt8 → Option Nat), k ≠ m d → k < w.heap.size → MapIs w k n f → MapIs w2 k n f := by
  intro k n f hne hlt hm;exact hm.block ((h2.block k (by have := h1.size; omega) (fun he => hne (Option.some.inj he))).trans (h1.block k hlt))
 have hnode2 : w2.heap[g]? = some (.cells (qrm x mb) qgm (0, 0)) := by
  refine (h2.block g (q41 hnode).1 ?_).trans hnode;intro he;have : g = m d := Option.some.inj he;omega
 have hdne : d ≠ d ++ [e] := (qk2 d e).symm;have kidsSame : ∀ q z, q ≠ d → q ≠ d ++ [e] → putF F (d ++ [e]) x q = some z → qb1 (putF F (d ++ [e]) x) (updP a (d ++ [e]) g) q = qb1 F a q := by
  intro q z hqd hqe hz;funext f
  unfold qb1;have hne : q ++ [f] ≠ d ++ [e] := by
   intro he; exact hqd (List.append_inj' he rfl).1
  rw [qa8 hne];have : putF F (d ++ [e]) x (q ++ [f]) = F (q ++ [f]) := by
   by_cases hp : d ++ [e] <+: q ++ [f]
   ·have hpq : d ++ [e] <+: q := by
     rcases qdl hp with h3 | h3
     ·exact h3
     ·exact absurd h3.symm hne
    rw [qdj hpq hqe] at hz;rw [qdj hp hne];split at hz
    ·rename_i hc; rw [if_pos hc]
    ·cases hz
   ·exact qil hp
  rw [this]
 refine ⟨qxe h.tree d e x hd, ?_, ?_, ?_, ?_, ?_⟩
 ·intro q z hz
  by_cases hq : q = d ++ [e]
  ·subst hq
   rw [qeu] at hz;obtain rfl := Option.some.inj hz;rw [qcc, qcc]; exact hnode2
  ·rw [qa8 hq, qa8 hq]
   exact cellsStay _ _ _ _ (h.node q z (qe9 hq hz))
 ·intro q z hz hzk
  by_cases hq : q = d ++ [e]
  ·subst hq
   rw [qeu] at hz;obtain rfl := Option.some.inj hz;rw [qcc];obtain ⟨hm1, hm2⟩ := hmb hzk;cases hdir : qak F (d ++ [e]) with
   | true =>
    obtain ⟨y2, hy2, hk2⟩ := qai.1 hdir;have hold := h.dir _ _ hy2 hk2;rw [hm1 hdir];have hne : m (d ++ [e]) ≠ m d := fun he => qk2 d e (h.injm _ _ hdir hd he)
    have e1 : qb1 (putF F (d ++ [e]) x) (updP a (d ++ [e]) g) (d ++ [e]) = qb1 F a (d ++ [e]) := by
     funext f
     unfold qb1;have hne2 := qk2 (d ++ [e]) f;have e3 : putF F (d ++ [e]) x (d ++ [e] ++ [f]) = F (d ++ [e] ++ [f]) := by
      rw [qdj (List.prefix_append _ _) hne2]; exact if_pos ⟨hzk, hdir⟩
     rw [qa8 hne2, e3]
    rw [e1];exact (mapStay _ _ _ hne hold.lt hold).mono (Nat.le_succ _)
   | false =>
    obtain ⟨hlt, hmade⟩ := hm2 hdir;have e1 : qb1 (putF F (d ++ [e]) x) (updP a (d ++ [e]) g) (d ++ [e]) = fun _ => none := by
     funext f
     unfold qb1;have e3 : putF F (d ++ [e]) x (d ++ [e] ++ [f]) = none := by
      rw [qdj (List.prefix_append _ _) (qk2 (d ++ [e]) f)]; exact if_neg (by rw [hdir]; simp)
     rw [e3]; rfl
    rw [e1];exact ((hmade.block (h2.block mb hmade.lt (fun he => by have : mb = m d := Option.some.inj he; omega))).mono (Nat.zero_le _))
  ·rw [qa8 hq]
   have hF := qe9 hq hz;by_cases hqd : q = d
   ·subst hqd
    have e1 : qb1 (putF F (q ++ [e]) x) (updP a (q ++ [e]) g) q = upd (qb1 F a q) e (some g) := by
     funext f
     unfold qb1 upd;by_cases hf : f = e
     ·subst hf; rw [if_pos rfl, qeu, qcc]; rfl
     ·have hne : q ++ [f] ≠ q ++ [e] := fun he => hf (by have := (List.append_inj' he rfl).2; simpa using this)
      rw [if_neg hf, qa8 hne, qil];intro hp;rcases qdl hp with h3 | h3
      ·exact qk1 q e h3
      ·exact hne h3.symm
    rw [e1]; exact hup
   ·have hold := h.dir q z hF hzk
    rw [kidsSame q z hqd hq hz];have hne : m q ≠ m d := fun he => hqd (h.injm _ _ (qai.2 ⟨z, hF, hzk⟩) hd he)
    exact (mapStay _ _ _ hne hold.lt hold).mono (Nat.le_succ _)
 ·intro q z hz
  by_cases hq : q = d ++ [e]
  ·subst hq
   rw [qeu] at hz;obtain rfl := Option.some.inj hz;rw [qcc, qcc];refine ⟨by omega, fun hzk => ?_⟩;obtain ⟨hm1, hm2⟩ := hmb hzk;cases hdir : qak F (d ++ [e]) with
   | true =>
    obtain ⟨y2, hy2, hk2⟩ := qai.1 hdir;rw [hm1 hdir]; exact (h.base _ _ hy2).2 hk2
   | false => have := (hm2 hdir).1; omega
  ·rw [qa8 hq, qa8 hq]; exact h.base q z (qe9 hq hz)
 ·have key : ∀ q z, q ≠ d ++ [e] → putF F (d ++ [e]) x q = some z → a q < w.heap.size := fun q z hq hz => (h.lt q z (qe9 hq hz)).1
  intro p q hp hq hpq;obtain ⟨zp, hzp⟩ := Option.isSome_iff_exists.1 hp;obtain ⟨zq, hzq⟩ := Option.isSome_iff_exists.1 hq;by_cases e1 : p = d ++ [e]
  ·by_cases e2 : q = d ++ [e]
   ·rw [e1, e2]
   ·subst e1
    rw [qcc, qa8 e2] at hpq;have := key q zq e2 hzq; omega
  ·by_cases e2 : q = d ++ [e]
   ·subst e2
    rw [qcc, qa8 e1] at hpq;have := key p zp e1 hzp; omega
   ·rw [qa8 e1, qa8 e2] at hpq
    exact h.inj p q (by rw [qe9 e1 hzp]; rfl) (by rw [qe9 e2 hzq]; rfl) hpq
 ·have dirOld : ∀ q, q ≠ d ++ [e] → qak (putF F (d ++ [e]) x) q = true → qak F q = true := by
   intro q hq hdq;obtain ⟨z, hz, hzk⟩ := qai.1 hdq;exact qai.2 ⟨z, qe9 hq hz, hzk⟩
  have dirNew : qak (putF F (d ++ [e]) x) (d ++ [e]) = true → x.kind = 1 := by
   intro hdq;obtain ⟨z, hz, hzk⟩ := qai.1 hdq;rw [qeu] at hz;obtain rfl := Option.some.inj hz;exact hzk
  have lt : ∀ q, qak F q = true → m q < w.heap.size := by
   intro q hdq;obtain ⟨z, hz, hzk⟩ := qai.1 hdq;exact (h.lt q z hz).2 hzk
  have key : ∀ q, q ≠ d ++ [e] → qak (putF F (d ++ [e]) x) (d ++ [e]) = true → qak (putF F (d ++ [e]) x) q = true → mb = m q → False := by
   intro q hq hdn hdq he;obtain ⟨hm1, hm2⟩ := hmb (dirNew hdn);have hq2 := dirOld q hq hdq;cases hdir : qak F (d ++ [e]) with
   | true => rw [hm1 hdir] at he; exact hq (h.injm _ _ hdir hq2 he).symm
   | false => have := (hm2 hdir).1; have := lt q hq2; omega
  intro p q hp hq hpq;by_cases e1 : p = d ++ [e]
  ·by_cases e2 : q = d ++ [e]
   ·rw [e1, e2]
   ·subst e1
    rw [qcc, qa8 e2] at hpq;exact absurd hpq (fun he => key q e2 hp hq he)
  ·by_cases e2 : q = d ++ [e]
   ·subst e2
    rw [qcc, qa8 e1] at hpq;exact absurd hpq.symm (fun he => key p e1 hq hp he)
   ·rw [qa8 e1, qa8 e2] at hpq
    exact h.injm p q (dirOld p e1 hp) (dirOld q e2 hq) hpq
theorem TreeAt.stay {w w2 : World} {B N : Nat} {a m : Pth → Nat} {F : qaf} (h : TreeAt w B N a m F) (d : Pth) (hd : qak F d = true) (h2 : w.grownBy w2 (some (m d))) :
 (∀ (k : Nat) (c : Array Value) (t : TypeId) (f : Nat × Nat), w.heap[k]? = some (Obj.cells c t f) → w2.heap[k]? = some (Obj.cells c t f)) ∧ (∀ (k n : Nat) (f : List UInt8 → Option Nat), k ≠ m d → MapIs w k n f → MapIs w2 k n f) := by
 obtain ⟨y, hy, hk⟩ := qai.1 hd;have hmd := h.dir d y hy hk;refine ⟨fun k c t f hkk => ?_, fun k n f hne hm => ?_⟩
 ·refine (h2.block k (q41 hkk).1 ?_).trans hkk
  intro he;have he2 : k = m d := Option.some.inj he;obtain ⟨D, ⟨es, clock, hm2, _⟩, _⟩ := hmd;rw [he2, hm2] at hkk; cases hkk
 ·exact hm.block (h2.block k hm.lt (fun he => hne (Option.some.inj he)))
theorem TreeAt.less {w w2 : World} {B N : Nat} {a m : Pth → Nat} {F G : qaf} (h : TreeAt w B N a m F) (d : Pth) (hd : qak F d = true) (h2 : w.grownBy w2 (some (m d))) (hG : IsTree G) (hsub : ∀ q z, G q = some z → F q = some z)
 (hmap : MapIs w2 (m d) N (qb1 G a d)) (hsame : ∀ q z, q ≠ d → G q = some z → qb1 G a q = qb1 F a q) : TreeAt w2 B N a m G := by
 obtain ⟨s1, s2⟩ := h.stay d hd h2;refine ⟨hG, fun q z hz => s1 _ _ _ _ (h.node q z (hsub q z hz)), fun q z hz hzk => ?_, fun q z hz => h.base q z (hsub q z hz), fun p q hp hq => ?_, fun p q hp hq => ?_⟩
 ·by_cases hq : q = d
  ·subst hq; exact hmap
  ·rw [hsame q z hq hz]
   have hF := hsub q z hz;exact s2 _ _ _ (fun he => hq (h.injm _ _ (qai.2 ⟨z, hF, hzk⟩) hd he)) (h.dir q z hF hzk)
 ·obtain ⟨zp, hzp⟩ := Option.isSome_iff_exists.1 hp
  obtain ⟨zq, hzq⟩ := Option.isSome_iff_exists.1 hq;exact h.inj p q (by rw [hsub _ _ hzp]; rfl) (by rw [hsub _ _ hzq]; rfl)
 ·obtain ⟨zp, hzp, hkp⟩ := qai.1 hp
  obtain ⟨zq, hzq, hkq⟩ := qai.1 hq;exact h.injm p q (qai.2 ⟨zp, hsub _ _ hzp, hkp⟩) (qai.2 ⟨zq, hsub _ _ hzq, hkq⟩)
theorem qkk {F : qaf} {p q : Pth} {z : Nd} (h : cutF F p q = some z) : F q = some z ∧ ¬ p <+: q := by
 unfold cutF at h;split at h
 ·cases h
 ·rename_i hp; exact ⟨h, hp⟩
theorem qkl {F : qaf} {p q : Pth} (h : ¬ p <+: q) : cutF F p q = F q := by unfold cutF; rw [if_neg h]
theorem qy1 {F : qaf} {p q : Pth} (h : p <+: q) : cutF F p q = none := by unfold cutF; rw [if_pos h]
theorem TreeAt.cut {w w2 : World} {B N : Nat} {a m : Pth → Nat} {F : qaf} (h : TreeAt w B N a m F) (d : Pth) (e : List UInt8) (hd : qak F d = true)
 (hdel : MapIs w2 (m d) N (upd (qb1 F a d) e none)) (h2 : w.grownBy w2 (some (m d))) : TreeAt w2 B N a m (cutF F (d ++ [e])) := by
 refine h.less d hd h2 (qy0 h.tree _ (by simp)) (fun q z hz => (qkk hz).1) ?_ ?_
 ·have e1 : qb1 (cutF F (d ++ [e])) a d = upd (qb1 F a d) e none := by
   funext f
   unfold qb1 upd;by_cases hf : f = e
   ·subst hf; rw [if_pos rfl, qy1 List.prefix_rfl]; rfl
   ·rw [if_neg hf, qkl]
    intro hp;rcases qdl hp with h3 | h3
    ·exact qk1 d e h3
    ·exact hf (by have := (List.append_inj' h3 rfl).2; simpa using this.symm)
  rw [e1]; exact hdel
 ·intro q z hq hz
  have hnp := (qkk hz).2;funext f
  unfold qb1;rw [qkl];intro hp;rcases qdl hp with h3 | h3
  ·exact hnp h3
  ·exact hq (List.append_inj' h3 rfl).1.symm
theorem qht {F : qaf} {p q : Pth} {z : Nd} (h : qdg F p q = some z) : F q = some z ∧ ¬ (p <+: q ∧ q ≠ p) := by
 unfold qdg at h;split at h
 ·cases h
 ·rename_i hp; exact ⟨h, hp⟩
theorem TreeAt.clear {w w2 : World} {B N : Nat} {a m : Pth → Nat} {F : qaf} (h : TreeAt w B N a m F) (d : Pth) (hd : qak F d = true)
 (hclr : MapIs w2 (m d) 0 (fun _ => none)) (h2 : w.grownBy w2 (some (m d))) : TreeAt w2 B N a m (qdg F d) := by
 refine h.less d hd h2 (qsi h.tree _) (fun q z hz => (qht hz).1) ?_ ?_
 ·have e1 : qb1 (qdg F d) a d = fun _ => none := by
   funext f
   unfold qb1 qdg;rw [if_pos (show d <+: d ++ [f] ∧ d ++ [f] ≠ d from ⟨List.prefix_append _ _, qk2 d f⟩)]; rfl
  rw [e1]; exact hclr.mono (Nat.zero_le _)
 ·intro q z hq hz
  have hnp := (qht hz).2;funext f
  have e3 : qdg F d (q ++ [f]) = F (q ++ [f]) := by
   unfold qdg;rw [if_neg];rintro ⟨hp, hne⟩;rcases qdl hp with h3 | h3
   ·exact hnp ⟨h3, hq⟩
   ·exact hne h3.symm
  unfold qb1;rw [e3]
def entZ : Value := .agg #[.string ByteArray.empty, .int .i64 0, .int .i64 0, .string ByteArray.empty]
theorem qg9 (w : World) (a b c d : Value) (t : TypeId) (B : Nat) (hB : w.heap.size = B) : ∀ j u, [a, b, c, d][j]? = some u → (w.alloc (.cells #[a, b, c, d] t)).cell? ((⟨B, 0, none⟩ : Addr).add j) = some u := by
 subst hB;intro j u h;match j, h with
 | 0, h => simp at h; subst h; simp [Addr.add]
 | 1, h => simp at h; subst h; simp [Addr.add]
 | 2, h => simp at h; subst h; simp [Addr.add]
 | 3, h => simp at h; subst h; simp [Addr.add]
abbrev OwnE (w : World) (B : Nat) (v : Value) (l : List Ent) : Prop := w.ownsRow B 47 4 v l.length (ents l)
theorem q0e {w : World} {B : Nat} {v : Value} {l : List Ent} {p : List UInt8} {k m : Int} {d : List UInt8} (h : w.ownsRow B 47 4 v (l.length + 1) (ents l ++ [.string (S p), .int .i64 k, .int .i64 m, .string (S d)])) : OwnE w B v (l ++ [⟨p, k, m, d⟩]) := by
 unfold OwnE;rw [qtc, List.length_append, List.length_singleton];exact h
def qyi (p : List UInt8) (self : Bool) (x : Ent) : Bool := !(qcn x.path p || (self && decide (x.path = p)))
def qeg (l : List Ent) (p : List UInt8) (self : Bool) : List Ent := l.filter (qyi p self)
def qec (e : Ent) (both : Bool) (s : List Ent × Bool) (x : Ent) : List Ent × Bool :=
 let s1 := if qal (qaa e.path) (qaa x.path) < 0 ∧ s.2 = false then (s.1 ++ [e], true) else s
 if qal (qaa e.path) (qaa x.path) = 0 ∨ (qcn x.path e.path = true ∧ both = false) then s1 else (s1.1 ++ [x], s1.2)
def q2t (e : Ent) (both : Bool) (l : List Ent) : List Ent × Bool := l.foldl (qec e both) ([], false)
def qs2 (e : Ent) (s : List Ent × Bool) : List Ent := if s.2 then s.1 else s.1 ++ [e]
def qhv (l : List Ent) (e : Ent) : Bool := decide (qbc l e.path = 1) && decide (e.kind = 1)
def putL (l : List Ent) (e : Ent) : List Ent := qs2 e (q2t e (qhv l e) l)
theorem qye (pre : List Ent) : (qd2 pre = none ∧ ∀ z ∈ pre, qfx z = false) ∨ (∃ (m : Nat) (y : Ent), pre[m]? = some y ∧ qfx y = true ∧ qd2 pre = some (y.path ++ [47]) ∧ ∀ (j : Nat) (z : Ent), m < j → pre[j]? = some z → qfx z = false) := by
 induction hn : pre.length generalizing pre with
 | zero => rw [List.eq_nil_of_length_eq_zero hn]; exact .inl ⟨rfl, fun z h => by cases h⟩
 | succ n ih =>
  rcases List.eq_nil_or_concat pre with rfl | ⟨p, c, rfl⟩
  ·simp at hn
  rw [List.concat_eq_append] at hn ⊢;have hpl : p.length = n := by simpa using hn
  rw [qcu];cases hc : qfx c
  ·simp only [Bool.false_eq_true, if_false]
   rcases ih p hpl with ⟨h1, h2⟩ | ⟨m, y, h1, h2, h3, h4⟩
   ·refine .inl ⟨h1, fun z hz => ?_⟩
    rcases List.mem_append.1 hz with hz | hz
    ·exact h2 z hz
    ·rw [List.mem_singleton] at hz; subst hz; exact hc
   ·have hm := (List.getElem?_eq_some_iff.1 h1).1
    refine .inr ⟨m, y, by rw [List.getElem?_append_left hm]; exact h1, h2, h3, fun j z hj hz => ?_⟩;rcases Nat.lt_or_ge j p.length with h | h
    ·rw [List.getElem?_append_left h] at hz; exact h4 j z hj hz
    ·rw [List.getElem?_append_right h] at hz
     have := (List.getElem?_eq_some_iff.1 hz).1;simp only [List.length_singleton] at this;obtain e : j - p.length = 0 := by omega
     rw [e] at hz;simp at hz; subst hz; exact hc
  ·refine .inr ⟨p.length, c, by simp, hc, by simp, fun j z hj hz => ?_⟩
   have := (List.getElem?_eq_some_iff.1 hz).1;simp at this; omega
theorem qgq {x : Ent} : qfx x = true ↔ x.kind ≠ 1 ∧ x.kind ≠ 5 := by simp [qfx]
theorem ql8 {l : List Ent} {j : Nat} {c : Ent} (h : barR l j = false) (hc : l[j]? = some c) : qc0 j c = true ∧ (∀ x, 0 < j → l[j - 1]? = some x → qgf x c = true) ∧ qh2 (l.take j) c = false := by
 refine ⟨?_, ?_, ?_⟩
 ·cases hs : qc0 j c
  ·rw [qfu hc hs] at h; cases h
  ·rfl
 ·intro x h0 hx
  cases hn : qgf x c
  ·rw [qqi hc h0 hx hn] at h; cases h
  ·rfl
 ·cases hs : qh2 (l.take j) c
  ·rfl
  ·rw [ql9 hc hs] at h; cases h
theorem qu1 {x c : Ent} (h : qgf x c = true) : qal (qaa x.path) (qaa c.path) < 0 ∨ (qaa x.path = qaa c.path ∧ x.kind = 1) := by
 unfold qgf at h;rcases Int.lt_or_le (qal (qaa x.path) (qaa c.path)) 0 with h1 | h1
 ·exact .inl h1
 ·rw [decide_eq_true h1] at h
  simp only [Bool.true_and, Bool.not_not, Bool.and_eq_true, decide_eq_true_eq] at h;exact .inr ⟨qgw h.1.1, h.1.2⟩
theorem qmw {j : Nat} {c : Ent} (h : qc0 j c = true) (h5 : c.kind ≠ 5) : c.path ≠ [] := by
 unfold qc0 at h;intro e;rw [e, decide_eq_false h5] at h;simp at h
theorem q4f {l : List Ent} {k i j : Nat} {x y : Ent} (hn : ∀ (m : Nat) (a b : Ent), m < k → l[m]? = some a → l[m + 1]? = some b → qgf a b = true) (hij : i < j) (hj : j ≤ k) (hx : l[i]? = some x) (hy : l[j]? = some y) (h1 : x.kind ≠ 1) : qal (qaa x.path) (qaa y.path) < 0 := by
 induction j generalizing y with
 | zero => omega
 | succ j ih =>
  have hjl := (List.getElem?_eq_some_iff.1 hy).1;obtain ⟨z, hz⟩ : ∃ z, l[j]? = some z := ⟨l[j]'(by omega), List.getElem?_eq_getElem _⟩;have hzn := qu1 (hn j z y (by omega) hz hy);rcases Nat.lt_or_ge i j with h | h
  ·have := ih h (by omega) hz
   rcases hzn with h2 | ⟨h2, _⟩
   ·exact qd5 this h2
   ·rw [← h2]; exact this
  ·obtain rfl : i = j := by omega
   rw [hx] at hz; cases hz
   rcases hzn with h2 | ⟨_, h2⟩
   ·exact h2
   ·exact absurd h2 h1
theorem qox {l : List Ent} {k : Nat} {c : Ent} (hb : ∀ j, j < k → barR l j = false) (hc : l[k]? = some c) (hnx : ∀ x, 0 < k → l[k - 1]? = some x → qgf x c = true) : qw1 (qd2 (l.take k)) c = qh2 (l.take k) c := by
 have hkl := (List.getElem?_eq_some_iff.1 hc).1;have hn : ∀ (m : Nat) (a b : Ent), m < k → l[m]? = some a → l[m + 1]? = some b → qgf a b = true := by
  intro m a b hm ha hbb;rcases Nat.lt_or_ge (m + 1) k with h | h
  ·exact (ql8 (hb (m + 1) h) hbb).2.1 a (by omega) ha
  ·obtain rfl : m + 1 = k := by omega
   rw [hc] at hbb; cases hbb
   exact hnx a (by omega) ha
 have ht : ∀ (j : Nat) (z : Ent), (l.take k)[j]? = some z ↔ j < k ∧ l[j]? = some z := by
  intro j z;rw [List.getElem?_take];by_cases h : j < k <;> simp [h]
 rcases qye (l.take k) with ⟨h1, h2⟩ | ⟨m, y, h1, h2, h3, h4⟩
 ·rw [h1]
  refine (qmu (fun q x hq => ?_)).symm;have := h2 x (List.mem_of_getElem? hq);by_cases hk1 : x.kind = 1
  ·exact .inr (.inl hk1)
  ·by_cases hk5 : x.kind = 5
   ·exact .inr (.inr hk5)
   ·rw [qgq.2 ⟨hk1, hk5⟩] at this; cases this
 ·obtain ⟨hm, hy⟩ := (ht m y).1 h1
  obtain ⟨hy1, hy5⟩ := qgq.1 h2;have fy := ql8 (hb m hm) hy;have hyp := qmw fy.1 hy5;rw [h3];show (y.path ++ [47]).isPrefixOf c.path = _
  cases hp : (y.path ++ [47]).isPrefixOf c.path
  ·refine (qmu (fun q x hq => ?_)).symm
   obtain ⟨hqk, hx⟩ := (ht q x).1 hq;by_cases hk1 : x.kind = 1
   ·exact .inr (.inl hk1)
   by_cases hk5 : x.kind = 5
   ·exact .inr (.inr hk5)
   left;have fx := ql8 (hb q hqk) hx;have hxp := qmw fx.1 hk5;cases hbl : qcn c.path x.path
   ·rfl
   ·exfalso
    have hpre : (x.path ++ [47]).isPrefixOf c.path = true := by
     unfold qcn at hbl; rw [if_neg hxp] at hbl; exact hbl
    rcases Nat.lt_trichotomy q m with h | h | h
    ·have o1 := q4f hn h (by omega) hx hy hk1
     have o2 := q4f hn hm (Nat.le_refl k) hy hc hy1;have hxy := qmd (ql7 hxp hpre) o1 o2;have hne : qaa x.path ≠ qaa y.path := fun e => by rw [e, qck] at o1; omega
     have hbx : qcn y.path x.path = true := by
      unfold qcn; rw [if_neg hxp]; exact qlb hxp hxy hne
     have := qsy (pre := l.take m) (q := q) (by rw [List.getElem?_take, if_pos h]; exact hx) hbx hk1 hk5;rw [fy.2.2] at this; cases this
    ·subst h
     rw [hx] at hy; cases hy
     rw [hp] at hpre; cases hpre
    ·have := h4 q x h hq
     rw [qgq.2 ⟨hk1, hk5⟩] at this; cases this
  ·refine (qsy h1 ?_ hy1 hy5).symm
   unfold qcn; rw [if_neg hyp]; exact hp
theorem q1q {l : List Ent} {k : Nat} (hk : k < l.length) (hb : ∀ j, j < k → barR l j = false) : barR l k = barP l k := by
 obtain ⟨c, hc⟩ : ∃ c, l[k]? = some c := ⟨l[k], List.getElem?_eq_getElem hk⟩;have h80 : k ≤ 80 := by
  rcases Nat.lt_or_ge 80 k with h | h
  ·have h1 := hb 80 h
   rw [qfu (c := l[80]'(by omega)) (List.getElem?_eq_getElem (by omega)) (by unfold qc0; rfl)] at h1;cases h1
  ·exact h
 have eP : barP l k = (!(qmx k c && (match l[k - 1]? with | some x => decide (k = 0) || qip x c | none => true)) || qw1 (qd2 (l.take k)) c) := by rw [barP, hc] <;> rfl
 rw [eP, qt9 h80];cases hs : qc0 k c
 ·rw [qfu hc hs]; rfl
 ·rcases Nat.eq_zero_or_pos k with h0 | h0
  ·have e1 : (match l[k - 1]? with | some x => decide (k = 0) || qip x c | none => true) = true := by
    rw [decide_eq_true h0]; cases l[k - 1]? <;> simp
   have e2 := qox hb hc (fun x h => by omega);rw [e1, e2];cases hh : qh2 (l.take k) c
   ·rw [qzb hc hs (.inl h0) hh]; rfl
   ·rw [ql9 hc hh]; rfl
  ·obtain ⟨x, hx⟩ : ∃ x, l[k - 1]? = some x := ⟨l[k - 1]'(by omega), List.getElem?_eq_getElem _⟩
   rw [hx];show barR l k = (!(true && (decide (k = 0) || qip x c)) || _)
   rw [qxu];cases hn : qgf x c
   ·rw [qqi hc h0 hx hn, decide_eq_false (by omega : ¬ k = 0)]; rfl
   ·rw [qox hb hc (fun y _ hy => by rw [hx] at hy; cases hy; exact hn)]
    cases hh : qh2 (l.take k) c
    ·rw [qzb hc hs (.inr ⟨x, hx, hn⟩) hh]; simp
    ·rw [ql9 hc hh]; simp
theorem qza {l : List Ent} {r s : Int} (h : First (barR l) l.length r) (k : First (barP l) l.length s) : r = s :=
 h.uniq k (fun i hi hb _ => q1q hi hb)
end Go.Proofs.YtikdblkfjchjbaaGreatDoor
