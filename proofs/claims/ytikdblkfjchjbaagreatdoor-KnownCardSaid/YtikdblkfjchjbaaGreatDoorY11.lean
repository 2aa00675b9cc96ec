import Derived.Test.YtikdblkfjchjbaaGreatDoorY07
import Derived.Test.YtikdblkfjchjbaaGreatDoorY08
import Derived.Test.YtikdblkfjchjbaaGreatDoorY10
set_option linter.unusedVariables false
set_option linter.unusedSimpArgs false
set_option maxHeartbeats 16000000
set_option maxRecDepth 100000
namespace Go.Proofs.YtikdblkfjchjbaaGreatDoor
theorem qju {p d : List UInt8} : qcn p d = true ↔ qaa d <+: qaa p ∧ qaa p ≠ qaa d := by
 unfold qcn;by_cases hd : d = []
 ·subst hd
  rw [if_pos rfl, show qaa ([] : List UInt8) = [] from rfl];cases p with
  | nil => simp [qaa]
  | cons x r => exact ⟨fun _ => ⟨List.nil_prefix, qbi (by simp)⟩, fun _ => rfl⟩
 ·rw [if_neg hd]
  constructor
  ·intro h
   refine ⟨ql7 hd h, fun e => ?_⟩;have := qen e;subst this;have := (List.isPrefixOf_iff_prefix.1 h).length_le;simp at this; omega
  ·rintro ⟨h1, h2⟩
   exact qlb hd h1 (fun e => h2 e.symm)
theorem Lists.filter {l : List Ent} {F G : qaf} (h : Lists l F) (keep : Ent → Bool) (h1 : ∀ e ∈ l, keep e = true → G (qaa e.path) = F (qaa e.path)) (h2 : ∀ e ∈ l, keep e = false → G (qaa e.path) = none) (h3 : ∀ q z, G q = some z → F q = some z) (h4 : G [] = F []) : Lists (l.filter keep) G := by
 refine ⟨fun e he => h.each e (List.mem_filter.1 he).1, fun e he => ?_, fun p x hx => ?_, h4.trans h.root, h.rise.sublist List.filter_sublist⟩
 ·obtain ⟨m1, m2⟩ := List.mem_filter.1 he
  rw [h1 e m1 m2]; exact h.mem e m1
 ·rcases h.only p x (h3 p x hx) with e1 | ⟨e, he, rfl, hn⟩
  ·exact .inl e1
  ·refine .inr ⟨e, List.mem_filter.2 ⟨he, ?_⟩, rfl, hn⟩
   cases hk : keep e with
   | true => rfl
   | false => rw [h2 e he hk] at hx; cases hx
theorem qll {p : List UInt8} {x : Ent} : qyi p false x = true ↔ ¬ (qaa p <+: qaa x.path ∧ qaa x.path ≠ qaa p) := by
 unfold qyi;rw [← qju];cases qcn x.path p <;> simp
theorem qm4 {p : List UInt8} {x : Ent} : qyi p true x = true ↔ ¬ qaa p <+: qaa x.path := by
 unfold qyi;by_cases hx : x.path = p
 ·rw [hx]; simp
 ·have hne : qaa x.path ≠ qaa p := fun e => hx (qen e)
  have := @qju x.path p;cases hb : qcn x.path p with
  | true => rw [hb] at this; have := (this.1 rfl).1; simp [this]
  | false =>
   rw [hb] at this;have h2 : ¬ qaa p <+: qaa x.path := fun h => by have := this.2 ⟨h, hne⟩; cases this
   simp [hx, h2]
theorem Lists.clear {l : List Ent} {F : qaf} (h : Lists l F) (p : List UInt8) : Lists (qeg l p false) (qdg F (qaa p)) := by
 unfold qeg;refine h.filter _ (fun e _ hk => ?_) (fun e _ hk => ?_) (fun q z hz => (qht hz).1) ?_
 ·unfold qdg; rw [if_neg (qll.1 hk)]
 ·unfold qdg
  rw [if_pos];exact Classical.not_not.1 fun hn => by rw [qll.2 hn] at hk; cases hk
 ·unfold qdg; rw [if_neg]; rintro ⟨h1, h2⟩; exact h2 (List.prefix_nil.1 h1).symm
theorem Lists.cut {l : List Ent} {F : qaf} (h : Lists l F) (p : List UInt8) (hp : p ≠ []) : Lists (qeg l p true) (cutF F (qaa p)) := by
 unfold qeg;refine h.filter _ (fun e _ hk => ?_) (fun e _ hk => ?_) (fun q z hz => (qkk hz).1) ?_
 ·exact qkl (qm4.1 hk)
 ·refine qy1 (Classical.not_not.1 fun hn => ?_)
  rw [qm4.2 hn] at hk; cases hk
 ·exact qkl (fun h1 => qbi hp (List.prefix_nil.1 h1))
def qgh (e : Ent) (both : Bool) (x : Ent) : Bool := !(decide (qal (qaa e.path) (qaa x.path) = 0) || (qcn x.path e.path && !both))
theorem qgu (e x : Ent) (both d : Bool) (out : List Ent) : qec e both (out, d) x =
 if qal (qaa e.path) (qaa x.path) < 0 ∧ d = false then (out ++ [e] ++ (if qgh e both x then [x] else []), true) else (out ++ (if qgh e both x then [x] else []), d) := by
 have hk : (qal (qaa e.path) (qaa x.path) = 0 ∨ (qcn x.path e.path = true ∧ both = false)) ↔ qgh e both x = false := by
  unfold qgh;by_cases h0 : qal (qaa e.path) (qaa x.path) = 0
  ·simp [h0]
  ·cases qcn x.path e.path <;> cases both <;> simp [h0]
 unfold qec;simp only [hk];by_cases h1 : qal (qaa e.path) (qaa x.path) < 0 ∧ d = false
 ·simp only [if_pos h1]
  cases qgh e both x <;> simp
 ·simp only [if_neg h1]
  cases qgh e both x <;> simp
theorem qui (e : Ent) (both : Bool) (t : List Ent) : ∀ out, t.foldl (qec e both) (out, true) = (out ++ t.filter (qgh e both), true) := by
 induction t with
 | nil => intro out; simp
 | cons x r ih =>
  intro out;rw [List.foldl_cons, qgu, if_neg (by simp), ih];cases hk : qgh e both x <;> simp [hk]
theorem qre (e : Ent) (both : Bool) (t : List Ent) (h : ∀ x ∈ t, ¬ qal (qaa e.path) (qaa x.path) < 0) : ∀ out, t.foldl (qec e both) (out, false) = (out ++ t.filter (qgh e both), false) := by
 induction t with
 | nil => intro out; simp
 | cons x r ih =>
  intro out;rw [List.foldl_cons, qgu, if_neg (fun hh => h x (by simp) hh.1), ih (fun y hy => h y (by simp [hy]))];cases hk : qgh e both x <;> simp [hk]
theorem qz0 {e : Ent} (t : List Ent) (hr : qqo t) : ∃ t1 t2, t = t1 ++ t2 ∧ (∀ x ∈ t1, ¬ qal (qaa e.path) (qaa x.path) < 0) ∧ (∀ x ∈ t2, qal (qaa e.path) (qaa x.path) < 0) := by
 induction t with
 | nil => exact ⟨[], [], rfl, by simp, by simp⟩
 | cons x r ih =>
  by_cases hx : qal (qaa e.path) (qaa x.path) < 0
  ·refine ⟨[], x :: r, rfl, by simp, fun y hy => ?_⟩
   rcases List.mem_cons.1 hy with rfl | hy
   ·exact hx
   ·exact qd5 hx ((List.pairwise_cons.1 hr).1 y hy)
  ·obtain ⟨t1, t2, rfl, h1, h2⟩ := ih (List.pairwise_cons.1 hr).2
   refine ⟨x :: t1, t2, rfl, fun y hy => ?_, h2⟩;rcases List.mem_cons.1 hy with rfl | hy
   ·exact hx
   ·exact h1 y hy
theorem qxd {e : Ent} {t1 t2 : List Ent} (h1 : ∀ x ∈ t1, ¬ qal (qaa e.path) (qaa x.path) < 0) (h2 : ∀ x ∈ t2, qal (qaa e.path) (qaa x.path) < 0) :
 putL (t1 ++ t2) e = t1.filter (qgh e (qhv (t1 ++ t2) e)) ++ e :: t2.filter (qgh e (qhv (t1 ++ t2) e)) := by
 unfold putL q2t;generalize qhv (t1 ++ t2) e = both;rw [List.foldl_append, qre e both t1 h1];cases t2 with
 | nil => simp [qs2]
 | cons x r =>
  rw [List.foldl_cons, qgu, if_pos ⟨h2 x (by simp), rfl⟩, qui];cases hk : qgh e both x <;> simp [qs2, hk]
theorem Lists.put {t : List Ent} {F : qaf} (h : Lists t F) (e : Ent) (hp : qa3 e.path = true) (hne : e.path ≠ []) (hg : qbm e = true) : Lists (putL t e) (putF F (qaa e.path) (ndOf e)) := by
 obtain ⟨t1, t2, ht, h1, h2⟩ := qz0 (e := e) t h.rise;have hPne := qbi hne;have hboth : qhv t e = true ↔ (ndOf e).kind = 1 ∧ qak F (qaa e.path) = true := by
  unfold qhv;rw [Bool.and_eq_true, qe1 h _ (Classical.em _), decide_eq_true_eq];exact And.comm
 have hkeep : ∀ x, qgh e (qhv t e) x = true ↔ qaa x.path ≠ qaa e.path ∧ (qaa e.path <+: qaa x.path → (ndOf e).kind = 1 ∧ qak F (qaa e.path) = true) := by
  intro x;rw [← hboth];unfold qgh;by_cases h0 : qaa x.path = qaa e.path
  ·rw [h0, qck]; simp
  ·have h3 : ¬ qal (qaa e.path) (qaa x.path) = 0 := fun h => h0 (qgw h).symm
   have h4 := @qju x.path e.path;cases hb : qcn x.path e.path with
   | true =>
    have := (h4.1 hb).1;cases qhv t e <;> simp [h3, h0, this]
   | false =>
    have h5 : ¬ qaa e.path <+: qaa x.path := fun hpre => by rw [h4.2 ⟨hpre, h0⟩] at hb; cases hb
    simp [h3, h0, h5]
 have hform : putL t e = t1.filter (qgh e (qhv t e)) ++ e :: t2.filter (qgh e (qhv t e)) := by rw [ht]; exact qxd h1 h2
 have hmem : ∀ x, x ∈ putL t e ↔ x = e ∨ (x ∈ t ∧ qgh e (qhv t e) x = true) := by
  intro x;rw [hform, List.mem_append, List.mem_cons, List.mem_filter, List.mem_filter];constructor
  ·rintro (⟨m, k⟩ | rfl | ⟨m, k⟩)
   ·exact .inr ⟨by rw [ht]; simp [m], k⟩
   ·exact .inl rfl
   ·exact .inr ⟨by rw [ht]; simp [m], k⟩
  ·rintro (rfl | ⟨m, k⟩)
   ·exact .inr (.inl rfl)
   ·rw [ht] at m
    rcases List.mem_append.1 m with m | m
    ·exact .inl ⟨m, k⟩
    ·exact .inr (.inr ⟨m, k⟩)
 have hrise := h.rise;rw [ht] at hrise;have hrp := List.pairwise_append.1 hrise;refine ⟨fun x hx => ?_, fun x hx => ?_, fun q z hz => ?_, ?_, ?_⟩
 ·rcases (hmem x).1 hx with rfl | ⟨m, _⟩
  ·exact ⟨hp, hne, hg⟩
  ·exact h.each x m
 ·rcases (hmem x).1 hx with rfl | ⟨m, k⟩
  ·exact qeu _ _ _
  ·obtain ⟨k1, k2⟩ := (hkeep x).1 k
   rw [← h.mem x m];by_cases hpre : qaa e.path <+: qaa x.path
   ·rw [qdj hpre k1, if_pos (k2 hpre)]
   ·exact qil hpre
 ·by_cases hq : q = qaa e.path
  ·subst hq
   rw [qeu] at hz;exact .inr ⟨e, (hmem e).2 (.inl rfl), rfl, Option.some.inj hz⟩
  ·rcases h.only q z (qe9 hq hz) with e1 | ⟨x, m, rfl, hn⟩
   ·exact .inl e1
   ·refine .inr ⟨x, (hmem x).2 (.inr ⟨m, (hkeep x).2 ⟨hq, fun hpre => ?_⟩⟩), rfl, hn⟩
    rw [qdj hpre hq] at hz;split at hz
    ·rename_i hc; exact hc
    ·cases hz
 ·rw [qil (fun hpre => hPne (List.prefix_nil.1 hpre))]; exact h.root
 ·rw [hform]
  refine List.pairwise_append.2 ⟨hrp.1.sublist List.filter_sublist, List.pairwise_cons.2 ⟨fun x hx => h2 x (List.mem_filter.1 hx).1, hrp.2.1.sublist List.filter_sublist⟩, fun x hx y hy => ?_⟩;obtain ⟨mx, kx⟩ := List.mem_filter.1 hx;rcases List.mem_cons.1 hy with rfl | hy
  ·have h3 : ¬ qal (qaa y.path) (qaa x.path) = 0 := fun h => ((hkeep x).1 kx).1 (qgw h).symm
   have := h1 x mx;exact qm2 (by omega)
  ·exact hrp.2.2 x mx y (List.mem_filter.1 hy).1
def qjz (l : List Ent) (at_ : List UInt8) : List (List UInt8) → Except Int (List Ent)
 | [] => .ok l
 | e :: r => if qbc l (inB at_ e) = 0 then qjz (putL l ⟨inB at_ e, 1, 493, []⟩) (inB at_ e) r else if qbc l (inB at_ e) = 1 then qjz l (inB at_ e) r else .error 9
def qgg (l : List Ent) (p : List UInt8) : Except Int (List Ent) := if qa3 p = true then qjz l [] (qaa p) else .error 1
def q0o (l : List Ent) (e : Ent) : Bool := decide (qbc l e.path = 0) || (decide (qbc l e.path = 1) == decide (e.kind = 1))
def layE (l : List Ent) (e : Ent) : Except Int (List Ent) := if q0o l e = false then .error 9 else if qa3 e.path = false then .error 1 else .ok (if qbc l (upB e.path).1 = 1 then putL l e else l)
def wayL (wk word : List UInt8) : Except Int (List UInt8) := match resB wk word with
 | none => .error 1
 | some out => if qa3 (qae out) = true then .ok (qae out) else .error 1
theorem q0t (a b : List (List UInt8)) : (qae a).length ≤ (qae (a ++ b)).length := by
 by_cases ha : a = []
 ·rw [ha]; simp [qae]
 ·by_cases hb : b = []
  ·rw [hb, List.append_nil]; exact Nat.le_refl _
  ·rw [qiy a b ha hb, List.length_append]; omega
theorem q3b {p : List UInt8} (h : qa3 p = true) : ∀ e ∈ qaa p, e ≠ [] ∧ (47 : UInt8) ∉ e := fun e he => by
 have := qba ((qa9 h).2 e he); exact ⟨this.1, this.2.2⟩
theorem qjg {p : List UInt8} (h : qa3 p = true) (k : Nat) : qaa (qae ((qaa p).take k)) = (qaa p).take k := qew fun e he => q3b h e (List.mem_of_mem_take he)
theorem qxh {p : List UInt8} (h : qa3 p = true) (k : Nat) : qa3 (qae ((qaa p).take k)) = true := by
 have h1 := qa9 h;have h2 : (qaa p).length ≤ 12 := by
  unfold qa3 at h; simp only [Bool.and_eq_true, decide_eq_true_eq] at h; exact h.1.2
 have h3 := q0t ((qaa p).take k) ((qaa p).drop k);rw [List.take_append_drop, qa1] at h3;unfold qa3;rw [qjg h];simp only [Bool.and_eq_true, decide_eq_true_eq, List.all_eq_true];exact ⟨⟨by omega, by rw [List.length_take]; omega⟩, fun e he => h1.2 e (List.mem_of_mem_take he)⟩
theorem qwt {p : List UInt8} (h : qa3 p = true) (k : Nat) (hk : k < (qaa p).length) : inB (qae ((qaa p).take k)) (qaa p)[k] = qae ((qaa p).take (k + 1)) := by
 rw [List.take_succ_eq_append_getElem hk];exact qkg (fun e he => (q3b h e (List.mem_of_mem_take he)).1) (q3b h _ (List.getElem_mem hk)).1
theorem q2h {p : List UInt8} (h : qa3 p = true) (k : Nat) (hk : k < (qaa p).length) : (upB (qae ((qaa p).take (k + 1)))).1 = qae ((qaa p).take k) := by
 unfold upB;rw [qjg h, List.take_succ_eq_append_getElem hk, List.dropLast_concat]
theorem q23 {p : List UInt8} (h : qa3 p = true) (k : Nat) (hk : k < (qaa p).length) : qae ((qaa p).take (k + 1)) ≠ [] := by
 intro e;have := qjg h (k + 1);rw [e] at this;have h2 := congrArg List.length this;rw [List.length_take] at h2;rw [show (qaa ([] : List UInt8)).length = 0 from rfl] at h2;omega
theorem q0r {l : List Ent} (h : Lists l (qa0 l)) (x : Ent) (hp : qa3 x.path = true) (hne : x.path ≠ []) (hg : qbm x = true) : qbc (putL l x) x.path = x.kind := by
 rw [qeq (h.put x hp hne hg)];unfold qmg putF;rw [if_pos rfl]; rfl
theorem qte (p : List UInt8) (m : Int) (h0 : 0 ≤ m) (h1 : m ≤ 511) : qbm ⟨p, 1, m, []⟩ = true := by
 unfold qbm;simp [qiq, h0, h1]
open Go.RowKit
abbrev qgl : TypeId := 208
abbrev qsu : TypeId := 147
def qfw (k : Int) : Ending := .panicked [{ v := .iface qgl (.agg #[.int .i64 k]), recovered := false }]
theorem qbf (k : Int) (w : World) : Calls Tryz.prog 93 #[.bool true, .int .i64 k] w fun e w' => e = .returned (.tuple #[]) ∧ w = w' := by
 go_enter Tryz.func93, Tryz.ntmps93;go_wp2;go_end0
 exact ⟨rfl, rfl⟩
theorem qcl (k : Int) (w : World) : Calls Tryz.prog 93 #[.bool false, .int .i64 k] w fun e w' => e = qfw k ∧ w = w' := by
 go_enter Tryz.func93, Tryz.ntmps93;go_wp2;exact ⟨rfl, rfl, rfl⟩
structure StM (w0 w : World) (n : Nat) (l : List Ent) (t g mb : Nat) (E : Obj → Prop) (D : Nat → Prop) (wk : List UInt8) : Prop where
 below : Below w0.heap.size w0 w
 lst : Lists l (qa0 l)
 len : l.length ≤ n
 tree : ∃ N a m, N ≤ n ∧ TreeAt w w0.heap.size N a m (qa0 l) ∧ TreeV w t a ∧ (∀ p, qak (qa0 l) p = true → ¬ D (m p)) ∧ ∀ p x, qa0 l p = some x → ¬ D (a p)
 blk : w.heap[g]? = some (.cells #[.pointer (some ⟨t, 0, none⟩), .map (some mb), .string (S wk)] qsu (0, 0))
 env : ∃ o, w.heap[mb]? = some o ∧ E o
 own : w0.heap.size ≤ g ∧ w0.heap.size ≤ mb ∧ w0.heap.size ≤ t
 way : wk.length ≤ 170
 dmb : D mb
 dlt : ∀ k, D k → k < w.heap.size
 mg : mb ≠ g
theorem StM.after {w0 w w' : World} {n : Nat} {l : List Ent} {t g mb : Nat} {E : Obj → Prop} {D : Nat → Prop} {wk : List UInt8} (h : StM w0 w n l t g mb E D wk) (hb : Below w.heap.size w w') : StM w0 w' n l t g mb E D wk := by
 obtain ⟨N, a, m, h1, h2, h3, h4⟩ := h.tree;obtain ⟨o, e1, e2⟩ := h.env;exact ⟨h.below.trans (hb.mono h.below.size), h.lst, h.len, ⟨N, a, m, h1, h2.below hb, h3.below hb, h4⟩, (hb.block _ (q41 h.blk).1).trans h.blk, ⟨o, (hb.block _ (q41 e1).1).trans e1, e2⟩, h.own, h.way, h.dmb, fun k hk => Nat.lt_of_lt_of_le (h.dlt k hk) hb.size, h.mg⟩
theorem StM.mono {w0 w : World} {n n' : Nat} {l : List Ent} {t g mb : Nat} {E : Obj → Prop} {D : Nat → Prop} {wk : List UInt8} (h : StM w0 w n l t g mb E D wk) (hn : n ≤ n') : StM w0 w n' l t g mb E D wk := by
 obtain ⟨N, a, m, h1, h2, h3, h4⟩ := h.tree;exact ⟨h.below, h.lst, Nat.le_trans h.len hn, ⟨N, a, m, by omega, h2, h3, h4⟩, h.blk, h.env, h.own, h.way, h.dmb, h.dlt, h.mg⟩
theorem StM.cells {w0 w : World} {n : Nat} {l : List Ent} {t g mb : Nat} {E : Obj → Prop} {D : Nat → Prop} {wk : List UInt8} (h : StM w0 w n l t g mb E D wk) :
 w.cell? ⟨g, 0, none⟩ = some (.pointer (some ⟨t, 0, none⟩)) ∧ w.cell? ⟨g, 1, none⟩ = some (.map (some mb)) ∧ w.cell? ⟨g, 2, none⟩ = some (.string (S wk)) := by
 refine ⟨?_, ?_, ?_⟩ <;> rw [cell_of_row w _ _ _ _ _ h.blk] <;> rfl
theorem Rd.keepC {w w' : World} {A : Option Addr} {cs : List Value} (h : Rd w A cs) (hk : KeepC w w') : Rd w' A cs := by
 rcases h with h | ⟨b, o, e, hc⟩
 ·exact .inl h
 ·exact .inr ⟨b, o, e, fun i u hu => hk _ _ (hc i u hu)⟩
def StayD (D : Nat → Prop) (w w' : World) : Prop := w.heap.size ≤ w'.heap.size ∧ ∀ k, D k → w'.heap[k]? = w.heap[k]?
theorem StayD.trans {D : Nat → Prop} {a b c : World} (h : StayD D a b) (k : StayD D b c) : StayD D a c := ⟨Nat.le_trans h.1 k.1, fun i hi => (k.2 i hi).trans (h.2 i hi)⟩
theorem StM.stay {w0 w w' : World} {n : Nat} {l : List Ent} {t g mb : Nat} {E : Obj → Prop} {D : Nat → Prop} {wk : List UInt8} (h : StM w0 w n l t g mb E D wk) (hb : Below w.heap.size w w') : StayD D w w' := ⟨hb.size, fun k hk => hb.block k (h.dlt k hk)⟩
theorem StM.guard {w0 w : World} {n : Nat} {l : List Ent} {t g mb : Nat} {E : Obj → Prop} {D D' : Nat → Prop} {wk : List UInt8} (h : StM w0 w n l t g mb E D wk) {w' : World} (hb : Below w.heap.size w w') (hD : ∀ k, D' k → D k ∨ (w.heap.size ≤ k ∧ k < w'.heap.size)) (hm : D' mb) : StM w0 w' n l t g mb E D' wk := by
 have h' := h.after hb;obtain ⟨N, a, m, h1, h2, h3, h4, h5⟩ := h.tree;refine ⟨h'.below, h'.lst, h'.len, ⟨N, a, m, h1, h2.below hb, h3.below hb, fun p hp hd => ?_, fun p x hx hd => ?_⟩, h'.blk, h'.env, h'.own, h'.way, hm, fun k hk => ?_, h'.mg⟩
 ·rcases hD _ hd with e | e
  ·exact h4 p hp e
  ·obtain ⟨x, hx, hk⟩ := qai.1 hp
   have := (h2.lt p x hx).2 hk; omega
 ·rcases hD _ hd with e | e
  ·exact h5 p x hx e
  ·have := (h2.lt p x hx).1; omega
 ·rcases hD _ hk with e | e
  ·exact Nat.lt_of_lt_of_le (h.dlt k e) hb.size
  ·exact e.2
theorem StM.poke {w0 w : World} {n : Nat} {l : List Ent} {t g mb : Nat} {E : Obj → Prop} {D : Nat → Prop} {wk : List UInt8} (h : StM w0 w n l t g mb E D wk) {w' : World} (k : Nat) (hk : D k) (hg : g ≠ k) (ht : t ≠ k) (hmb : mb ≠ k) (hB : Below w0.heap.size w0 w') (hs : w.heap.size ≤ w'.heap.size) (hw : ∀ i, i ≠ k → i < w.heap.size → w'.heap[i]? = w.heap[i]?) : StM w0 w' n l t g mb E D wk := by
 obtain ⟨N, a, m, h1, h2, h3, h4, h5⟩ := h.tree;obtain ⟨o, e1, e2⟩ := h.env;have htl : t < w.heap.size := q40 w _ h3;refine ⟨hB, h.lst, h.len, ⟨N, a, m, h1, ⟨h2.tree, fun p x hx => ?_, fun p x hx hd => ?_, h2.base, h2.inj, h2.injm⟩, ?_, h4, h5⟩, ?_, ⟨o, ?_, e2⟩, h.own, h.way, h.dmb, fun i hi => Nat.lt_of_lt_of_le (h.dlt i hi) hs, h.mg⟩
 ·exact (hw (a p) (fun e => h5 p x hx (by rw [e]; exact hk)) (h2.lt p x hx).1).trans (h2.node p x hx)
 ·exact (h2.dir p x hx hd).block (hw (m p) (fun e => h4 p (qai.2 ⟨x, hx, hd⟩) (by rw [e]; exact hk)) ((h2.lt p x hx).2 hd))
 ·unfold TreeV at h3 ⊢
  rw [← h3]; exact World.cell?_of_block (hw t ht htl)
 ·exact (hw g hg (q41 h.blk).1).trans h.blk
 ·exact (hw mb hmb (q41 e1).1).trans e1
theorem StM.pokeC {w0 w : World} {n : Nat} {l : List Ent} {t g mb : Nat} {E : Obj → Prop} {D : Nat → Prop} {wk : List UInt8} (h : StM w0 w n l t g mb E D wk) {w' : World} (k : Nat) {cs : Array Value} {T : TypeId} {fz : Nat × Nat} (hk : w.heap[k]? = some (.cells cs T fz)) (hT : T ≠ qgm) (hg : g ≠ k) (ht : t ≠ k) (hmb : mb ≠ k) (hB : Below w0.heap.size w0 w') (hs : w.heap.size ≤ w'.heap.size) (hw : ∀ i, i ≠ k → i < w.heap.size → w'.heap[i]? = w.heap[i]?) : StM w0 w' n l t g mb E D wk := by
 obtain ⟨N, a, m, h1, h2, h3, h4, h5⟩ := h.tree;obtain ⟨o, e1, e2⟩ := h.env;have htl : t < w.heap.size := q40 w _ h3;refine ⟨hB, h.lst, h.len, ⟨N, a, m, h1, ⟨h2.tree, fun p x hx => ?_, fun p x hx hd => ?_, h2.base, h2.inj, h2.injm⟩, ?_, h4, h5⟩, ?_, ⟨o, ?_, e2⟩, h.own, h.way, h.dmb, fun i hi => Nat.lt_of_lt_of_le (h.dlt i hi) hs, h.mg⟩
 ·exact (hw (a p) (fun e => by have := h2.node p x hx; rw [e, hk] at this; cases this; exact hT rfl) (h2.lt p x hx).1).trans (h2.node p x hx)
 ·exact (h2.dir p x hx hd).block (hw (m p) (fun e => by obtain ⟨Dm, ⟨es, cl, e2, _⟩, _⟩ := h2.dir p x hx hd; rw [e, hk] at e2; cases e2) ((h2.lt p x hx).2 hd))
 ·unfold TreeV at h3 ⊢
  rw [← h3]; exact World.cell?_of_block (hw t ht htl)
 ·exact (hw g hg (q41 h.blk).1).trans h.blk
 ·exact (hw mb hmb (q41 e1).1).trans e1
theorem StM.work {w0 w : World} {n : Nat} {l : List Ent} {t g mb : Nat} {E : Obj → Prop} {D : Nat → Prop} {wk : List UInt8} (h : StM w0 w n l t g mb E D wk) (p : List UInt8) (hp : p.length ≤ 170) : StM w0 (w.setCell ⟨g, 2, none⟩ (.string (S p))) n l t g mb E D p := by
 obtain ⟨N, a, m, h1, h2, h3, h4, h5⟩ := h.tree;obtain ⟨o, e1, e2⟩ := h.env;have hw : ∀ i, i ≠ g → (w.setCell ⟨g, 2, none⟩ (.string (S p))).heap[i]? = w.heap[i]? := fun i hi => heap_setCell_other w ⟨g, 2, none⟩ i _ hi
 have ha : ∀ q x, qa0 l q = some x → a q ≠ g := fun q x hx e => by have := h2.node q x hx; rw [e, h.blk] at this; cases this
 obtain ⟨x0, hx0, _⟩ := h2.tree.root;have ht : t ≠ g := fun e => by
  have h6 := h3;unfold TreeV at h6;rw [e, cell_of_row _ _ _ _ _ _ h.blk] at h6;have h7 : t = a [] := by simpa using h6
  exact ha [] x0 hx0 (h7.symm.trans e)
 refine ⟨h.below.setCell h.own.1 _, h.lst, h.len, ⟨N, a, m, h1, ⟨h2.tree, fun q x hx => ?_, fun q x hx hd => ?_, h2.base, h2.inj, h2.injm⟩, ?_, h4, h5⟩, ?_, ⟨o, (hw mb h.mg).trans e1, e2⟩, h.own, hp, h.dmb, fun i hi => by simpa using h.dlt i hi, h.mg⟩
 ·exact (hw (a q) (ha q x hx)).trans (h2.node q x hx)
 ·exact (h2.dir q x hx hd).block (hw (m q) (fun e => by obtain ⟨Dm, ⟨es, cl, e3, _⟩, _⟩ := h2.dir q x hx hd; rw [e, h.blk] at e3; cases e3))
 ·unfold TreeV at h3 ⊢
  rw [← h3]; exact World.cell?_of_block (hw t ht)
 ·exact heap_setCell_same w g 2 _ _ (.string (S p)) h.blk
def StOut (w0 w : World) (n : Nat) (t g mb : Nat) (E : Obj → Prop) (D : Nat → Prop) (wk : List UInt8) (r : Except Int (List Ent)) (e : Ending) (w' : World) : Prop := match r with
 | .ok l' => e = .returned (.tuple #[]) ∧ StM w0 w' n l' t g mb E D wk ∧ KeepC w w' ∧ StayD D w w'
 | .error k => e = qfw k ∧ Below w0.heap.size w0 w' ∧ StayD D w w'
theorem StOut.err {w0 w w' : World} {n : Nat} {t g mb : Nat} {E : Obj → Prop} {D : Nat → Prop} {wk : List UInt8} {r : Except Int (List Ent)} {k : Int} (h : r = .error k) (hb : Below w0.heap.size w0 w') (hd : StayD D w w') : StOut w0 w n t g mb E D wk r (qfw k) w' := by
 subst h; exact ⟨rfl, hb, hd⟩
theorem StOut.ok {w0 w w' : World} {n : Nat} {t g mb : Nat} {E : Obj → Prop} {D : Nat → Prop} {wk : List UInt8} {r : Except Int (List Ent)} {l' : List Ent} (h : r = .ok l') (hm : StM w0 w' n l' t g mb E D wk) (hk : KeepC w w') (hd : StayD D w w') : StOut w0 w n t g mb E D wk r (.returned (.tuple #[])) w' := by
 subst h; exact ⟨rfl, hm, hk, hd⟩
def q4k (r : Except Int (List UInt8)) (e : Ending) : Prop := match r with
 | .ok p => e = .returned (.string (S p))
 | .error k => e = qfw k
theorem qgj (wk s : List UInt8) : (∃ p, wayL wk s = .ok p ∧ qgt wk s = .tuple #[.string (S p), .bool true] ∧ qa3 p = true) ∨ (∃ q, wayL wk s = .error 1 ∧ qgt wk s = .tuple #[.string (S q), .bool false]) := by
 unfold wayL;cases hr : resB wk s with
 | none => exact .inr ⟨[], rfl, qgs hr⟩
 | some out =>
  cases hp : qa3 (qae out) with
  | false => exact .inr ⟨qae out, by simp [hp], by rw [qgr hr, hp]⟩
  | true => exact .inl ⟨qae out, by simp [hp], by rw [qgr hr, hp], hp⟩
theorem qfv {wk s p : List UInt8} (h : wayL wk s = .ok p) : qa3 p = true := by
 rcases qgj wk s with ⟨q, h1, _, h3⟩ | ⟨q, h1, _⟩
 ·rw [h1] at h; cases h; exact h3
 ·rw [h1] at h; cases h
theorem qhi {w0 w : World} {n : Nat} {l : List Ent} {t g mb : Nat} {E : Obj → Prop} {D : Nat → Prop} {wk : List UInt8} (h : StM w0 w n l t g mb E D wk) (hS : Std w) (s : List UInt8) (hs : s.length ≤ 5000) :
 Calls Tryz.prog 96 #[.pointer (some ⟨g, 0, none⟩), .string (S s)] w fun e w' => q4k (wayL wk s) e ∧ Below w.heap.size w w' := by
 have hw := h.way;have HR := qe8 wk s w hS (by omega);obtain ⟨c0, c1, c2⟩ := h.cells;clear h hS;rcases qgj wk s with ⟨p, h1, h2, _⟩ | ⟨q, h1, h2⟩
 ·rw [h1]
  rw [h2] at HR;have HR := q4z HR;go_enter Tryz.func96, Tryz.ntmps96;go_wp2_with fail;refine HR.out.mono ?_;rintro e w1 ⟨rfl, hb1⟩;have HB := q4z hb1;clear hb1 HR;go_wp2_with fail;refine (qbf 1 _).mono ?_;rintro _ w2 ⟨rfl, rfl⟩;go_wp2;go_ret;exact ⟨rfl, HB.out⟩
 ·rw [h1]
  rw [h2] at HR;have HR := q4z HR;go_enter Tryz.func96, Tryz.ntmps96;go_wp2_with fail;refine HR.out.mono ?_;rintro e w1 ⟨rfl, hb1⟩;have HB := q4z hb1;clear hb1 HR;go_wp2_with fail;refine (qcl 1 _).mono ?_;rintro _ w2 ⟨rfl, rfl⟩;exact ⟨rfl, rfl, HB.out⟩
def quj (l : List Ent) (x : Ent) : List Ent := if qbc l (upB x.path).1 = 1 then putL l x else l
theorem TreeAt.mapObj {w : World} {B N : Nat} {a m : Pth → Nat} {F : qaf} (h : TreeAt w B N a m F) {p : Pth} (hp : qak F p = true) : ∃ es c, w.heap[m p]? = some (.map es c) := by
 obtain ⟨x, h1, h2⟩ := qai.1 hp;obtain ⟨D, ⟨es, c, e, _⟩, _⟩ := h.dir p x h1 h2;exact ⟨es, c, e⟩
theorem q3c {F : qaf} {P : Pth} {x : Nd} {p : Pth} (h : qak (putF F P x) p = true) : (p = P ∧ x.kind = 1) ∨ qak F p = true := by
 obtain ⟨y, h1, h2⟩ := qai.1 h;unfold putF at h1;split at h1
 ·rename_i e; obtain rfl := Option.some.inj h1; exact .inl ⟨e, h2⟩
 ·split at h1
  ·split at h1
   ·exact .inr (qai.2 ⟨y, h1, h2⟩)
   ·cases h1
  ·exact .inr (qai.2 ⟨y, h1, h2⟩)
theorem StM.put {w0 w w' : World} {n : Nat} {l : List Ent} {t g mb : Nat} {E : Obj → Prop} {D : Nat → Prop} {wk : List UInt8} (h : StM w0 w n l t g mb E D wk) (x : Ent) (hp : qa3 x.path = true) (hne : x.path ≠ []) (hg : qbm x = true)
 {N : Nat} {a m : Pth → Nat} (hN : N ≤ n) (hT : TreeAt w w0.heap.size N a m (qa0 l)) (hd : (∀ p, qak (qa0 l) p = true → ¬ D (m p)) ∧ ∀ p y, qa0 l p = some y → ¬ D (a p)) {e : Ending} (hO : PutFull w0.heap.size N a m (qa0 l) t x w e w') :
 (∃ b, e = .returned (.bool b)) ∧ StM w0 w' (n + 1) (quj l x) t g mb E D wk ∧ KeepC w w' ∧ StayD D w w' := by
 have hk : decide (qbc l (upB x.path).1 = 1) = qak (qa0 l) (qaa x.path).dropLast := by
  rw [qe1 h.lst _ (Classical.em _), qdz hp]
 rcases hO with ⟨h1, h2, h3, hkc⟩ | ⟨h1, h2, a', m', h3, h4, h5, hkc, h7, h8, h9⟩
 ·refine ⟨⟨_, h2⟩, ?_, hkc, h.stay h3⟩
  rw [h1] at hk;unfold quj;rw [if_neg (of_decide_eq_false hk)];exact (h.after h3).mono (by omega)
 ·refine ⟨⟨_, h2⟩, ?_, hkc, ⟨h5.size, fun k hkD => h7 k (h.dlt k hkD) fun p hpd e => hd.1 p hpd (e ▸ hkD)⟩⟩
  rw [h1] at hk;unfold quj;rw [if_pos (of_decide_eq_true hk)];have hL := h.lst.put x hp hne hg;have hF : qa0 (putL l x) = putF (qa0 l) (qaa x.path) (ndOf x) := (qg0 hL.each hL.rise).uniqF hL;have hgm : ∀ p, qak (qa0 l) p = true → g ≠ m p := by
   intro p hpd e;obtain ⟨es, c, e2⟩ := hT.mapObj hpd;rw [← e, h.blk] at e2; cases e2
  obtain ⟨o, e1, e2⟩ := h.env;refine ⟨h.below.trans h5, by rw [hF]; exact hL, ?_, ⟨N + 1, a', m', by omega, by rw [hF]; exact h3, h4, ?_, ?_⟩, ?_, ⟨o, ?_, e2⟩, h.own, h.way, h.dmb, fun k hkD => Nat.lt_of_lt_of_le (h.dlt k hkD) ?_, h.mg⟩
  ·have := qs1 l x; have := h.len; omega
  ·intro p hpd hem
   rw [hF] at hpd;rcases h9 p with ⟨e3, e4⟩ | e3
   ·rcases q3c hpd with ⟨q1, q2⟩ | q
    ·exact hd.1 p (e4 q2 q1) (e3 ▸ hem)
    ·exact hd.1 p q (e3 ▸ hem)
   ·have := h.dlt _ hem; omega
  ·intro p y hy hem
   rcases h8 p with ⟨e3, e4⟩ | e3
   ·rw [hF] at hy
    unfold putF at hy;rw [if_neg e4] at hy;have hy2 : ∃ z, qa0 l p = some z := by
     split at hy
     ·split at hy
      ·exact ⟨y, hy⟩
      ·cases hy
     ·exact ⟨y, hy⟩
    obtain ⟨z, hz⟩ := hy2;exact hd.2 p z hz (e3 ▸ hem)
   ·have := h.dlt _ hem; omega
  ·exact (h7 g (q41 h.blk).1 hgm).trans h.blk
  ·exact (h7 mb (q41 e1).1 (fun p hpd e => hd.1 p hpd (e ▸ h.dmb))).trans e1
  ·exact Nat.le_trans (Nat.le_refl _) h5.size
theorem qlk {w0 w : World} {n : Nat} {l : List Ent} {t g mb : Nat} {E : Obj → Prop} {D : Nat → Prop} {wk : List UInt8} (h : StM w0 w n l t g mb E D wk) (hS : Std w) (p : List UInt8) (hp : p.length ≤ 4294967280) :
 Calls Tryz.prog 69 #[.pointer (some ⟨t, 0, none⟩), .string (S p)] w fun e w' => e = .returned (.int .i64 (qbc l p)) ∧ Below w.heap.size w w' := by
 obtain ⟨N, a, m, _, h2, h3, _⟩ := h.tree;rw [qeq h.lst];exact kind_any h2 t h3 p hp hS
theorem qs0 {w0 w : World} {n : Nat} {l : List Ent} {t g mb : Nat} {E : Obj → Prop} {D : Nat → Prop} {wk : List UInt8} (h : StM w0 w n l t g mb E D wk) (hS : Std w) (x : Ent) (hp : qa3 x.path = true) (hne : x.path ≠ []) (hg : qbm x = true) (hn : n < 4000000000) :
 Calls Tryz.prog 98 #[.pointer (some ⟨t, 0, none⟩), x.agg] w fun e w' => (∃ b, e = .returned (.bool b)) ∧ StM w0 w' (n + 1) (quj l x) t g mb E D wk ∧ KeepC w w' ∧ StayD D w w' := by
 have hb1 : Below w.heap.size w (w.alloc (.cells #[.string (S x.path), .int .i64 x.kind, .int .i64 x.mode, .string (S x.data)] 47)) := (Below.refl _ _).alloc (Nat.le_refl _) _;have HM := q4z (h.after hb1);have HK := q4z (KeepC.below hb1);have HD := q4z (h.stay hb1);have HS := q4z (hS.below hb1);have Q := q4z (Cell4.new w x 47);obtain ⟨q0, q1, q2, q3⟩ := Q.out;have hX : x.agg = .agg #[.string (S x.path), .int .i64 x.kind, .int .i64 x.mode, .string (S x.data)] := rfl;rw [hX];clear h hS hb1;go_enter Tryz.func98, Tryz.ntmps98;go_wp2_with fail;obtain ⟨N, a, m, h1, h2, h3, h4⟩ := HM.out.tree;have hsz := HM.out.below.size;refine (qrd h2 t h3 x hp hne (by omega) hsz HS.out).mono ?_;intro e w2 hO
 obtain ⟨⟨b, rfl⟩, hM2, hk2, hd2⟩ := HM.out.put x hp hne hg h1 h2 h4 hO;have HM2 := q4z hM2;have HK2 := q4z (HK.out.trans hk2);have HD2 := q4z (HD.out.trans hd2);clear hO hk2 hd2 hM2 h2 h3 h4 HM q0 q1 q2 q3 Q;go_wp2;go_ret;exact ⟨⟨b, rfl⟩, HM2.out, HK2.out, HD2.out⟩
theorem qir {w0 w : World} {n : Nat} {l : List Ent} {t g mb : Nat} {E : Obj → Prop} {D : Nat → Prop} {wk : List UInt8} (h : StM w0 w n l t g mb E D wk) (hS : Std w0) (p : List UInt8) (hp : p.length ≤ 5000) (hn : n < 3000000000) :
 Calls Tryz.prog 97 #[.pointer (some ⟨g, 0, none⟩), .string (S p)] w fun e w' => StOut w0 w (n + 12) t g mb E D wk (qgg l p) e w' := by
 have HS := q4z hS;have HM := q4z h;have HP := q4z (qgv p w (hS.below h.below) (by omega));clear h hS;by_cases hpp : qa3 p = true
 ·have HR := q4z hpp
  rw [hpp] at HP;have hmd : qgg l p = qjz l [] (qaa p) := if_pos hpp;rw [hmd];have h12 : (qaa p).length ≤ 12 := by
   unfold qa3 at hpp; simp only [Bool.and_eq_true, decide_eq_true_eq] at hpp; exact hpp.1.2
  clear hmd hpp;go_enter Tryz.func97, Tryz.ntmps97;go_wp2_with fail;refine HP.out.mono ?_;rintro _ w1 ⟨rfl, hb1⟩;have HM1 := q4z (HM.out.after hb1);have HK1 := q4z (KeepC.below hb1);have HD1 := q4z (HM.out.stay hb1);clear hb1 HM HP;go_wp2_with fail;refine (qbf 1 _).mono ?_;rintro _ w2 ⟨rfl, rfl⟩;go_wp2_with fail;refine (qeo p w1 (HS.out.below HM1.out.below) (by omega)).mono ?_;rintro _ w3 ⟨v, rfl, hown, hb3⟩;obtain ⟨pv, pc, rfl, _, _, hrd⟩ := Rd.of_own hown;have HM3 := q4z (HM1.out.after hb3);have HRd := q4z hrd;have HK3 := q4z (KeepC.below hb3);have HD3 := q4z (HD1.out.trans (HM1.out.stay hb3));clear hown hb3 hrd HM1
  have HTk := q4z (fun k (hk : k < (qaa p).length) => And.intro (qwt HR.out k hk) (And.intro (q2h HR.out k hk) (And.intro (q23 HR.out k hk) (qxh HR.out (k + 1)))));generalize hL : qaa p = L at h12 HRd HTk ⊢;have HLe := q4z hL;clear hL;rw [show (ByteArray.mk #[]) = S [] from rfl];go_wp2;go_loopw [13, 4] (fun vi va wr => ∃ (k : Nat) (l' : List Ent), k ≤ L.length ∧ vi = .int .i64 k ∧ va = .string (S (qae (L.take k))) ∧ Hid (qjz l [] L = qjz l' (qae (L.take k)) (L.drop k)) ∧ Hid (qbc l' (qae (L.take k)) = 1) ∧ Hid (StM w0 wr (n + k) l' t g mb E D wk) ∧ Hid (KeepC w3 wr) ∧ Hid (StayD D w wr)) (fun vi _ _ => L.length - (intOf vi).toNat)
  case atStart => exact ⟨0, l, Nat.zero_le _, rfl, rfl, q4z rfl, q4z rfl, HM3, q4z (fun _ _ hv => hv), HD3⟩
  case round =>
   obtain ⟨k, l', hk, rfl, rfl, HG, HD, HMr, HKr, HDr⟩ := hrel;by_cases hlt : k < L.length
   ·obtain ⟨s1, s2, s3, s4⟩ := HTk.out k hlt
    obtain ⟨b, o, hpe, hbb, hce⟩ := (HRd.out.keepC HKr.out).at k (by rw [qb2]; exact hlt);subst hpe;have he := hce k (.string (S L[k])) (qcg hlt);obtain ⟨x, hx⟩ : ∃ x, L[k] = x := ⟨_, rfl⟩;rw [hx] at he s1;have hGo := HG.out;rw [List.drop_eq_getElem_cons hlt, hx, qjz, s1] at hGo;have HQ := q4z s2;have HN := q4z s3;have HP := q4z s4;obtain ⟨q, hq⟩ : ∃ q, qae (L.take (k + 1)) = q := ⟨_, rfl⟩;rw [hq] at s1 hGo HQ HN HP;have HQn := q4z hq;have HG2 := q4z hGo;generalize qae (L.take k) = d at s1 HD HQ ⊢;have HS1 := q4z s1;have hql := (qa9 HP.out).1;obtain ⟨c0, _, _⟩ := HMr.out.cells;have hkl : (k : Int) < (L.length : Int) := by omega
    have hdl : d.length + x.length ≤ 9000000000 := by
     have := congrArg List.length s1;unfold inB at this;split at this <;> simp only [List.length_append, List.length_cons] at this <;> omega
    clear s1 s2 s3 s4 hGo hq hx hce HG;go_wp2_with fail;refine (qe2 d x _ hdl).mono ?_;rintro _ w4 ⟨rfl, rfl⟩;rw [HS1.out];go_wp2_with fail;refine (qlk HMr.out (HS.out.below HMr.out.below) q (by omega)).mono ?_;rintro _ w5 ⟨rfl, hb5⟩;have HM5 := q4z (HMr.out.after hb5);have HK5 := q4z (HKr.out.trans (KeepC.below hb5));have HD5 := q4z (HDr.out.trans (HMr.out.stay hb5));obtain ⟨z, hz⟩ : ∃ z, qbc l' q = z := ⟨_, rfl⟩;have HZ := q4z hz;rw [hz];obtain ⟨c0, _, _⟩ := HM5.out.cells;clear hz hb5 HMr HKr HDr;by_cases hz0 : z = 0
    ·subst hz0
     have hg := HG2.out;rw [if_pos HZ.out] at hg;have hpi : quj l' ⟨q, 1, 493, []⟩ = putL l' ⟨q, 1, 493, []⟩ := if_pos (by show qbc l' (upB q).1 = 1; rw [HQ.out]; exact HD.out);have hkp := q0r HM5.out.lst ⟨q, 1, 493, []⟩ HP.out HN.out (qte q 493 (by decide) (by decide));go_wp2_with fail;refine (qs0 HM5.out (HS.out.below HM5.out.below) ⟨q, 1, 493, []⟩ HP.out HN.out (qte q 493 (by decide) (by decide)) (by omega)).mono ?_;rintro _ w6 ⟨⟨bb, rfl⟩, hm6, hk6, hd6⟩;rw [hpi] at hm6;have HM6 := q4z hm6;have HK6 := q4z (HK5.out.trans hk6);have HD6 := q4z (HD5.out.trans hd6);have HKp := q4z hkp;have HGn := q4z hg;clear hm6 hk6 hd6 hkp hg hpi;go_wp2;go_roundw
     case rel => exact ⟨k + 1, putL l' ⟨q, 1, 493, []⟩, by omega, by go_num, by rw [HQn.out], by rw [HQn.out]; exact HGn, by rw [HQn.out]; exact HKp, HM6, HK6, HD6⟩
     case measure => simp [intOf]; omega
    ·by_cases hz1 : z = 1
     ·subst hz1
      have hg := HG2.out;rw [if_neg (by rw [HZ.out]; decide), if_pos HZ.out] at hg;go_wp2;go_roundw
      case rel => exact ⟨k + 1, l', by omega, by go_num, by rw [HQn.out], by rw [HQn.out]; exact q4z hg, by rw [HQn.out]; exact HZ, q4z (HM5.out.mono (by omega)), HK5, HD5⟩
      case measure => simp [intOf]; omega
     ·have hf0 : (z == 0) = false := beq_eq_false_iff_ne.2 hz0
      have hf1 : (z == 1) = false := beq_eq_false_iff_ne.2 hz1;go_wp2_with fail;refine (qcl 9 _).mono ?_;rintro _ w6 ⟨rfl, rfl⟩;have hg := HG2.out;rw [if_neg (by rw [HZ.out]; exact hz0), if_neg (by rw [HZ.out]; exact hz1)] at hg;exact ⟨rfl, StOut.err (by rw [HLe.out]; exact hg) HM5.out.below HD5.out⟩
   ·obtain rfl : k = L.length := by omega
    have hg := HG.out;rw [List.drop_length, qjz] at hg;have HGe := q4z hg;have HMe := q4z (HMr.out.mono (n' := n + 12) (by omega));have HKe := q4z (HK1.out.trans (HK3.out.trans HKr.out));clear HMr HKr hg HG;go_wp2;go_end0
    exact StOut.ok (by rw [HLe.out]; exact HGe.out) HMe.out HKe.out HDr.out
 ·have hpf : qa3 p = false := by simpa using hpp
  rw [hpf] at HP;have hmd : qgg l p = .error 1 := if_neg hpp;rw [hmd];clear hmd hpp hpf;go_enter Tryz.func97, Tryz.ntmps97;go_wp2_with fail;refine HP.out.mono ?_;rintro _ w1 ⟨rfl, hb1⟩;have HM1 := q4z (HM.out.after hb1);have HD1 := q4z (HM.out.stay hb1);clear hb1 HM HP;go_wp2_with fail;refine (qcl 1 _).mono ?_;rintro _ w2 ⟨rfl, rfl⟩;exact ⟨rfl, rfl, HM1.out.below, HD1.out⟩
theorem qbn {B : Nat} {a w : World} (h : Below B a w) : Below B a w.drew := ⟨h.os, h.tape, h.output, h.size, h.block⟩
theorem StM.drew {w0 w : World} {n : Nat} {l : List Ent} {t g mb : Nat} {E : Obj → Prop} {D : Nat → Prop} {wk : List UInt8} (h : StM w0 w n l t g mb E D wk) : StM w0 w.drew n l t g mb E D wk := h.after (qbn (Below.refl _ _))
theorem KeepC.drew {w w' : World} (h : KeepC w w') : KeepC w w'.drew := fun p v hv => h p v hv
theorem qyd {w0 w : World} {n : Nat} {l : List Ent} {t g mb : Nat} {E : Obj → Prop} {D : Nat → Prop} {wk : List UInt8} (h : StM w0 w n l t g mb E D wk) (hS : Std w0) (x : Ent) (hp : x.path.length ≤ 5000) (hne : x.path ≠ []) (hg : qbm x = true) (hn : n < 3000000000) :
 Calls Tryz.prog 102 #[.pointer (some ⟨g, 0, none⟩), x.agg] w fun e w' => StOut w0 w (n + 1) t g mb E D wk ((layE l x)) e w' := by
 have hb1 : Below w.heap.size w (w.alloc (.cells #[.string (S x.path), .int .i64 x.kind, .int .i64 x.mode, .string (S x.data)] 47)) := (Below.refl _ _).alloc (Nat.le_refl _) _;have HM := q4z (h.after hb1);have HS := q4z hS;have HK := q4z (KeepC.below hb1);have HD := q4z (h.stay hb1);have Q := q4z (Cell4.new w x 47);have HNe := q4z hne;have HGd := q4z hg;have hX : x.agg = .agg #[.string (S x.path), .int .i64 x.kind, .int .i64 x.mode, .string (S x.data)] := rfl;rw [hX];clear h hS hb1 hne hg;go_enter Tryz.func102, Tryz.ntmps102;go_upto_region 1 with fail;generalize hw1 : w.alloc (.cells #[.string (S x.path), .int .i64 x.kind, .int .i64 x.mode, .string (S x.data)] 47) = w1 at HM HK HD Q ⊢
 generalize hbx : w.heap.size = bx at Q ⊢;clear hw1;obtain ⟨c0, _, _⟩ := HM.out.cells;obtain ⟨q0, q1, q2, q3⟩ := Q.out;go_cut [4] (fun v wx => v = .int .i64 (qbc l x.path) ∧ Hid (StM w0 wx n l t g mb E D wk) ∧ Hid (Cell4 wx bx x) ∧ Hid (KeepC w wx) ∧ Hid (StayD D w wx))
 case first =>
  have HKd := q4z (qlk HM.out.drew (HS.out.below HM.out.drew.below) x.path (by omega));have t1 := fun (w2 : World) (hb : Below w1.drew.heap.size w1.drew w2) => HM.out.drew.after hb
  have t2 := fun (w2 : World) (hb : Below w1.drew.heap.size w1.drew w2) => Cell4.below (W := w1.drew) Q.out hb
  have t3 := fun (w2 : World) (hb : Below w1.drew.heap.size w1.drew w2) => HK.out.drew.trans (KeepC.below hb)
  have t4 := fun (w2 : World) (hb : Below w1.drew.heap.size w1.drew w2) => HD.out.trans (HM.out.drew.stay hb)
  go_region_with (go_at_call 69; refine HKd.out.mono ?_; rintro e1 w2 ⟨rfl, hb2⟩; have HM2 := q4z (t1 w2 hb2); have HQ2 := q4z (t2 w2 hb2); have HK2 := q4z (t3 w2 hb2); have HD2 := q4z (t4 w2 hb2); clear hb2)
  all_goals
   go_wp2;go_meet
   exact ⟨rfl, HM2, HQ2, HK2, HD2⟩
 case rest =>
  obtain ⟨rfl, HM2, HQ2, HK2, HD2⟩ := hcut;clear HM Q HK HD c0 q0 q1 q2 q3;obtain ⟨q0, q1, q2, q3⟩ := HQ2.out;obtain ⟨c0, _, _⟩ := HM2.out.cells;obtain ⟨z, hz⟩ : ∃ z, qbc l x.path = z := ⟨_, rfl⟩;have HZ := q4z hz;rw [hz];clear hz;cases hlo : q0o l x with
  | false =>
   have HE := q4z (show layE l x = .error 9 by unfold layE; rw [if_pos hlo]);unfold q0o at hlo;rw [HZ.out] at hlo;have f0 : (z == 0) = false := by
    rw [Bool.or_eq_false_iff] at hlo; exact beq_eq_false_iff_ne.2 (of_decide_eq_false hlo.1)
   have f1 : ((z == 1) == (x.kind == 1)) = false := by
    rw [Bool.or_eq_false_iff] at hlo;have := hlo.2;rw [← this]; rfl
   clear hlo;go_wp2_with fail;refine (qcl 9 _).mono ?_;rintro _ w3 ⟨rfl, rfl⟩;exact ⟨rfl, StOut.err HE.out HM2.out.below HD2.out⟩
  | true =>
   have HL := q4z hlo;unfold q0o at hlo;rw [HZ.out] at hlo;have hff : (z == 0) = true ∨ ((z == 0) = false ∧ ((z == 1) == (x.kind == 1)) = true) := by
    by_cases h0 : z = 0
    ·exact .inl (beq_iff_eq.2 h0)
    ·rw [decide_eq_false h0, Bool.false_or] at hlo
     exact .inr ⟨beq_eq_false_iff_ne.2 h0, hlo⟩
   clear hlo;rcases hff with f0 | ⟨f0, f1⟩
   all_goals
    go_wp2_with fail;refine (qbf 9 _).mono ?_;rintro _ w3 ⟨rfl, rfl⟩;have HPt := q4z (qgv x.path wc (HS.out.below HM2.out.below) (by omega));cases hpp : qa3 x.path with
    | false =>
     have HE := q4z (show layE l x = .error 1 by unfold layE; rw [if_neg (by rw [HL.out]; decide), if_pos hpp]);rw [hpp] at HPt;go_wp2_with fail;refine HPt.out.mono ?_;rintro _ w4 ⟨rfl, hb4⟩;have HM4 := q4z (HM2.out.after hb4);have HD4 := q4z (HD2.out.trans (HM2.out.stay hb4));clear hb4 HPt;go_wp2_with fail;refine (qcl 1 _).mono ?_;rintro _ w5 ⟨rfl, rfl⟩;exact ⟨rfl, StOut.err HE.out HM4.out.below HD4.out⟩
    | true =>
     have HE := q4z (show layE l x = .ok (quj l x) by unfold layE; rw [if_neg (by rw [HL.out]; decide), if_neg (by rw [hpp]; decide)]; rfl);have HPp := q4z hpp;rw [hpp] at HPt;go_wp2_with fail;refine HPt.out.mono ?_;rintro _ w4 ⟨rfl, hb4⟩;have HM4 := q4z (HM2.out.after hb4);have HQ4 := q4z (HQ2.out.below hb4);have HK4 := q4z (HK2.out.trans (KeepC.below hb4));have HD4 := q4z (HD2.out.trans (HM2.out.stay hb4));clear hb4 HPt q0 q1 q2 q3 c0;go_wp2_with fail;refine (qbf 1 _).mono ?_;rintro _ w5 ⟨rfl, rfl⟩;obtain ⟨q0, q1, q2, q3⟩ := HQ4.out;obtain ⟨c0, _, _⟩ := HM4.out.cells;have HPu := q4z (qs0 HM4.out.drew (HS.out.below HM4.out.drew.below) x HPp.out HNe.out HGd.out (by omega))
     have t3 := fun (w6 : World) (hk : KeepC w4.drew w6) => HK4.out.drew.trans hk
     have t4 := fun (w6 : World) (hd : StayD D w4.drew w6) => HD4.out.trans hd
     go_upto_region 4 with fail;go_region_with (go_at_call 98; refine HPu.out.mono ?_; rintro e6 w6 ⟨⟨bb, rfl⟩, hm6, hk6, hd6⟩; have HM6 := q4z hm6; have HK6 := q4z (t3 w6 hk6); have HD6 := q4z (t4 w6 hd6); clear hm6 hk6 hd6)
     all_goals
      go_wp2;go_end0
      exact StOut.ok HE.out HM6.out HK6.out HD6.out
def qfm (F : qaf) (P : Pth) : qaf := fun q => F (P ++ q)
def qub (F : qaf) (P : Pth) : qaf := fun q => if q = [] then some ⟨1, 493, []⟩ else F (P ++ q)
def subE (p : List UInt8) (e : Ent) : Option Ent := if qcn e.path p = true then some ⟨e.path.drop (p.length + 1), e.kind, e.mode, e.data⟩ else none
def subL (l : List Ent) (p : List UInt8) : List Ent := if p = [] then l else l.filterMap (subE p)
theorem qnl {s p : List UInt8} (hp : p ≠ []) : qcn s p = true ↔ ∃ r, s = p ++ 47 :: r := by
 unfold qcn;rw [if_neg hp, List.isPrefixOf_iff_prefix];constructor
 ·rintro ⟨r, hr⟩; exact ⟨r, by rw [← hr]; simp⟩
 ·rintro ⟨r, hr⟩; exact ⟨r, by rw [hr]; simp⟩
theorem qpb {p r : List UInt8} (hp : p ≠ []) (hr : r ≠ []) : qaa (p ++ 47 :: r) = qaa p ++ qaa r := by
 unfold qaa;rw [if_neg (by simp), if_neg hp, if_neg hr, qkm]
theorem qw8 {p r : List UInt8} (hp : p ≠ []) (h : qa3 (p ++ 47 :: r) = true) : r ≠ [] := by
 intro e;subst e;have h2 := (qa9 h).2 [] (by
  unfold qaa; rw [if_neg (by simp), qkm]; simp [cutB])
 exact (qba h2).1 rfl
theorem q0a {p r : List UInt8} (hp : p ≠ []) (h : qa3 (p ++ 47 :: r) = true) : qa3 r = true := by
 have hr := qw8 hp h;have h1 := qa9 h;have h2 : (qaa (p ++ 47 :: r)).length ≤ 12 := by
  unfold qa3 at h; simp only [Bool.and_eq_true, decide_eq_true_eq] at h; exact h.1.2
 rw [qpb hp hr] at h1 h2;rw [List.length_append] at h2;have h3 := h1.1;rw [List.length_append, List.length_cons] at h3;unfold qa3;simp only [Bool.and_eq_true, decide_eq_true_eq, List.all_eq_true];exact ⟨⟨by omega, by omega⟩, fun e he => h1.2 e (List.mem_append_right _ he)⟩
theorem qky {p : List UInt8} (hp : p ≠ []) {e y : Ent} (h : subE p e = some y) : e.path = p ++ 47 :: y.path ∧ y.kind = e.kind ∧ y.mode = e.mode ∧ y.data = e.data := by
 unfold subE at h;split at h
 ·rename_i hb
  obtain ⟨r, hr⟩ := (qnl hp).1 hb;obtain rfl := Option.some.inj h;refine ⟨?_, rfl, rfl, rfl⟩;show e.path = p ++ 47 :: e.path.drop (p.length + 1)
  rw [hr];congr 1
  rw [show p.length + 1 = (p ++ [47]).length by simp, show p ++ 47 :: r = (p ++ [47]) ++ r by simp, List.drop_left'];simp
 ·cases h
theorem qoo {l : List Ent} {F : qaf} (h : Lists l F) {p : List UInt8} (hp : p ≠ []) (hpp : qa3 p = true) : Lists (l.filterMap (subE p)) (qub F (qaa p)) := by
 have hPne := qbi hp;have key : ∀ e ∈ l, ∀ y, subE p e = some y → y.path ≠ [] ∧ qa3 y.path = true ∧ qaa e.path = qaa p ++ qaa y.path := by
  intro e he y hy;obtain ⟨h1, _⟩ := qky hp hy;have hpe := (h.each e he).1;rw [h1] at hpe;have h2 := qw8 hp hpe;exact ⟨h2, q0a hp hpe, by rw [h1, qpb hp h2]⟩
 refine ⟨fun y hy => ?_, fun y hy => ?_, fun q x hx => ?_, if_pos rfl, ?_⟩
 ·obtain ⟨e, he, hs⟩ := List.mem_filterMap.1 hy
  obtain ⟨k1, k2, _⟩ := key e he y hs;obtain ⟨_, g1, g2, g3⟩ := qky hp hs;refine ⟨k2, k1, ?_⟩;have := (h.each e he).2.2;unfold qbm at this ⊢;rw [g1, g2, g3]; exact this
 ·obtain ⟨e, he, hs⟩ := List.mem_filterMap.1 hy
  obtain ⟨k1, _, k3⟩ := key e he y hs;obtain ⟨_, g1, g2, g3⟩ := qky hp hs;unfold qub;rw [if_neg (qbi k1), ← k3, h.mem e he];unfold ndOf; rw [g1, g2, g3]
 ·unfold qub at hx
  split at hx
  ·rename_i e; exact .inl e
  ·rename_i hq
   rcases h.only _ x hx with e | ⟨e, he, h1, h2⟩
   ·rw [List.append_eq_nil_iff] at e; exact absurd e.2 hq
   ·right
    have hel : ∀ z ∈ q, z ≠ [] ∧ (47 : UInt8) ∉ z := fun z hz => by
     have := qba ((qa9 (h.each e he).1).2 z (by rw [h1]; exact List.mem_append_right _ hz)); exact ⟨this.1, this.2.2⟩
    have hpath : e.path = p ++ 47 :: qae q := by
     rw [← qa1 e.path, h1, qiy _ _ hPne hq, qa1]
    have hb : qcn e.path p = true := (qnl hp).2 ⟨_, hpath⟩;have hd : e.path.drop (p.length + 1) = qae q := by
     rw [hpath, show p.length + 1 = (p ++ [47]).length by simp, show p ++ 47 :: qae q = (p ++ [47]) ++ qae q by simp, List.drop_left'];simp
    refine ⟨⟨qae q, e.kind, e.mode, e.data⟩, List.mem_filterMap.2 ⟨e, he, ?_⟩, qew hel, h2⟩;unfold subE; rw [if_pos hb, hd]
 ·refine List.Pairwise.filterMap (subE p) ?_ (List.Pairwise.and_mem.1 h.rise)
  rintro e e' ⟨he, he', hr⟩ y hy y' hy';obtain ⟨_, _, k3⟩ := key e he y hy;obtain ⟨_, _, k3'⟩ := key e' he' y' hy';rw [k3, k3', qfn] at hr;exact hr
theorem qo0 {F : qaf} (h : IsTree F) (P : Pth) (x : Nd) (hx : F P = some x) (hk : x.kind = 1) : IsTree (qub F P) ∧ IsTree (qfm F P) := by
 refine ⟨⟨fun q e hs => ?_, ⟨_, if_pos rfl, rfl⟩⟩, ⟨fun q e hs => ?_, ⟨x, by unfold qfm; rw [List.append_nil]; exact hx, hk⟩⟩⟩
 ·unfold qub at hs ⊢
  rw [if_neg (by simp), ← List.append_assoc] at hs;by_cases hq : q = []
  ·rw [if_pos hq]; exact ⟨_, rfl, rfl⟩
  ·rw [if_neg hq]; exact h.up _ e hs
 ·unfold qfm at hs ⊢
  rw [← List.append_assoc] at hs;exact h.up _ e hs
theorem WalkL.congr {F G : qaf} (hFG : ∀ q, q ≠ [] → F q = G q) {p : Pth} {L : List Ent} (h : WalkL F p L) : WalkL G p L := by
 induction h with
 | mk p ks Ls h1 h2 h3 ih =>
  have e : (ks.flatMap fun k => qfk F (p ++ [k]) :: Ls k) = ks.flatMap fun k => qfk G (p ++ [k]) :: Ls k := by
   congr 1; funext k
   unfold qfk; rw [hFG _ (by simp)]
  rw [e];exact WalkL.mk p ks Ls h1 (fun x => by rw [h2, hFG _ (by simp)]) ih
theorem qzw {l : List Ent} {F : qaf} (h : Lists l F) (hT : IsTree F) {p : List UInt8} (hpp : qa3 p = true) {x : Nd} (hx : F (qaa p) = some x) (hk : x.kind = 1) : WalkL (qfm F (qaa p)) [] (subL l p) ∧ FineF (qfm F (qaa p)) := by
 unfold subL;by_cases hp : p = []
 ·rw [if_pos hp]; subst hp; exact ⟨h.walk hT, h.fine⟩
 ·rw [if_neg hp]
  have hL := qoo h hp hpp;have hc : ∀ q, q ≠ [] → qub F (qaa p) q = qfm F (qaa p) q := fun q hq => if_neg hq
  refine ⟨(hL.walk (qo0 hT _ x hx hk).1).congr hc, ?_⟩;have hf := hL.fine;exact ⟨fun q k hs => hf.join q k (by rw [hc _ (by simp)]; exact hs), fun q y hy => by
   by_cases hq : q = []
   ·subst hq; simp [qae]
   ·exact hf.len q y (by rw [hc _ hq]; exact hy), fun q k hs => hf.name q k (by rw [hc _ (by simp)]; exact hs)⟩
theorem TreeAt.shift {w : World} {B N : Nat} {a m : Pth → Nat} {F : qaf} (h : TreeAt w B N a m F) (P : Pth) (x : Nd) (hx : F P = some x) (hk : x.kind = 1) : TreeAt w B N (fun q => a (P ++ q)) (fun q => m (P ++ q)) (qfm F P) := by
 refine ⟨(qo0 h.tree P x hx hk).2, fun q y hy => h.node _ y hy, fun q y hy hk => ?_, fun q y hy => h.base _ y hy, fun q r h1 h2 e => List.append_cancel_left (h.inj _ _ h1 h2 e), fun q r h1 h2 e => List.append_cancel_left (h.injm _ _ h1 h2 e)⟩;have := h.dir _ y hy hk;have e : qb1 (qfm F P) (fun q => a (P ++ q)) q = qb1 F a (P ++ q) := by
  funext k; unfold qb1 qfm; rw [List.append_assoc]
 rw [e]; exact this
theorem q2l {l : List Ent} {F : qaf} (h : Lists l F) {p : List UInt8} (hpp : qa3 p = true) {y : Ent} (hy : y ∈ subL l p) : qa3 y.path = true ∧ y.path ≠ [] ∧ qbm y = true := by
 unfold subL at hy;by_cases hp : p = []
 ·rw [if_pos hp] at hy; exact h.each y hy
 ·rw [if_neg hp] at hy; exact (qoo h hp hpp).each y hy
theorem qwp (l : List Ent) (p : List UInt8) : (subL l p).length ≤ l.length := by
 unfold subL; split
 ·exact Nat.le_refl _
 ·exact List.length_filterMap_le _ _
theorem q36 (d : List UInt8) {r : List UInt8} (h : r ≠ []) : inB d r ≠ [] := by
 unfold inB; split
 ·simp [h]
 ·simp
theorem q0x (d r : List UInt8) : (inB d r).length ≤ d.length + r.length + 1 := by
 unfold inB; split <;> simp only [List.length_append, List.length_cons] <;> omega
def qcy (l : List Ent) (tp : List UInt8) : List Ent → Except Int (List Ent)
 | [] => .ok l
 | e :: r => match layE l ⟨inB tp e.path, e.kind, e.mode, e.data⟩ with
  | .ok l' => qcy l' tp r
  | .error k => .error k
def qne (l : List Ent) (tp dst p : List UInt8) : List UInt8 := if ([47] : List UInt8).isSuffixOf dst = true ∨ qbc l tp = 1 then inB tp (upB p).2 else tp
def qn3 (c l : List Ent) (tp dst p : List UInt8) : Except Int (List Ent) :=
 if qne l tp dst p = [] then .error 9 else match qgg l (upB (qne l tp dst p)).1 with
  | .error k => .error k
  | .ok l1 => match qf4 c p with
   | some e => layE l1 ⟨qne l tp dst p, e.kind, e.mode, e.data⟩
   | none => .error 8
def qn5 (c l : List Ent) (tp p : List UInt8) : Except Int (List Ent) := match qgg l tp with
 | .error k => .error k
 | .ok l1 => qcy l1 tp (subL c p)
def qdu (c l : List Ent) (wk src dst : List UInt8) : Except Int (List Ent) := match wayL [] src with
 | .error k => .error k
 | .ok p => match wayL wk dst with
  | .error k => .error k
  | .ok tp => if qbc c p = 0 then .error 8 else if qbc c p = 1 then qn5 c l tp p else qn3 c l tp dst p
end Go.Proofs.YtikdblkfjchjbaaGreatDoor
