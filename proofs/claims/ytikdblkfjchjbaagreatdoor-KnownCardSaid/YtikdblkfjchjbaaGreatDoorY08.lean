import Derived.Laws.AppendOwnNone
import Derived.Test.YtikdblkfjchjbaaGreatDoorY01
set_option linter.unusedVariables false
set_option linter.unusedSimpArgs false
set_option maxHeartbeats 16000000
set_option maxRecDepth 100000
namespace Go.Proofs.YtikdblkfjchjbaaGreatDoor
open Go.RowKit
theorem qj5 {P : Program} {w : World} {ops : Array Oper} {rest : List Oper} {o : Oper} {a : Act} {Q : Exit → Act → World → Prop} (hgd : o.guard = none) (s x : Operand) (t : TypeId)
 (ho : o.op = .call { callee := .builtin .append, args := #[s, x], argTypes := #[t, t] })
 (base : Nat) (e : TypeId) (i : TypeInfo) (z : Value) (size bytes : Nat) (ht : P.underlying t = some (.slice e)) (hi : P.info? e = some i) (hz : i.zero = some z)
 (hsize : i.size = size) (hby : i.bytes = bytes) (hzs : z.cells.size = size) (hsz : 0 < size)
 (v : Value) (n : Nat) (xs : List Value) (hs : a.eval s = v) (hown : w.ownsRow base e size v n xs)
 (A : Option Addr) (m cap : Nat) (ys : List Value) (hx : a.eval x = .slice A m cap) (hA : A = none → m = 0 ∧ cap = 0) (hr : Rd w A ys) (hyl : ys.length = m * size) (h1 : ∀ u ∈ ys, u.oneCell' = true)
 (h63 : n + m ≤ maxLen) (hbytes : (n + m) * bytes ≤ 140737488355328) (hbase : base ≤ w.heap.size)
 (h : ∀ v' w', w'.ownsRow base e size v' (n + m) (xs ++ ys) → w.grownBy w' v.ownBlock → wpList P ops Q rest (a.put o.dst v') w') : wpList P ops Q (o :: rest) a w := by
 cases A with
 | none =>
  obtain ⟨rfl, rfl⟩ := hA rfl;have hy : ys = [] := List.eq_nil_of_length_eq_zero (by simpa using hyl);subst hy;refine wpList_append_own_none hgd s x t ho base e i size ht hi v n xs hs hown hx ?_;exact h v w (by simpa using hown) ⟨rfl, rfl, rfl, Nat.le_refl _, fun _ _ _ => rfl⟩
 | some ad =>
  refine wpList_append_own w hgd s x t ho base e i z size bytes ht hi hz hsize hby hzs hsz v n xs hs hown ad m cap ys hx hyl ?_ h1 h63 hbytes hbase (fun v' w' h2 h3 _ => h v' w' h2 h3);intro j u hu;rcases hr with rfl | ⟨b, o, hb, hc⟩
  ·simp at hu
  ·cases hb
   have hj := hc j u hu;by_cases h0 : j = 0
   ·subst h0; simpa [Addr.add] using hj
   ·simpa [Addr.add, h0] using hj
def qph (a : List Ent) (c : Ent) : Bool := (decide (c.kind = 5) && !decide (qbc a c.path = 1)) || (decide (c.kind = 4) && decide (qbc a c.path = 0))
def cutL (t : List Ent) (c : Ent) : List Ent := if c.kind = 5 then qeg t c.path false else if c.kind = 4 then qeg t c.path true else t
def qdf (a : List Ent) : List Ent → Nat → List Ent → Except Nat (List Ent)
 | [], _, t => .ok t
 | c :: r, i, t => if qph a c = true then .error i else qdf a r (i + 1) (cutL t c)
def qd3 : List Ent → Nat → List Ent → Except Nat (List Ent)
 | [], _, t => .ok t
 | c :: r, i, t => if c.kind = 4 ∨ c.kind = 5 then qd3 r (i + 1) t else if qbc t (upB c.path).1 = 1 then qd3 r (i + 1) (putL t c) else .error i
def qee (a l : List Ent) : List Ent × Int × Int := match qdf a l 0 a with
 | .error i => ([], 8, i)
 | .ok t => match qd3 l 0 t with
  | .error i => ([], 9, i)
  | .ok t => if 40 < t.length then ([], 10, -1) else (t, 0, -1)
theorem qsb {a l t : List Ent} {k : Nat} {c : Ent} (h : l[k]? = some c) : qdf a (l.drop k) k t = if qph a c = true then .error k else qdf a (l.drop (k + 1)) (k + 1) (cutL t c) := by
 obtain ⟨hk, rfl⟩ := List.getElem?_eq_some_iff.1 h;rw [List.drop_eq_getElem_cons hk, qdf]
theorem qrf {l t : List Ent} {k : Nat} {c : Ent} (h : l[k]? = some c) : qd3 (l.drop k) k t = if c.kind = 4 ∨ c.kind = 5 then qd3 (l.drop (k + 1)) (k + 1) t else if qbc t (upB c.path).1 = 1 then qd3 (l.drop (k + 1)) (k + 1) (putL t c) else .error k := by
 obtain ⟨hk, rfl⟩ := List.getElem?_eq_some_iff.1 h;rw [List.drop_eq_getElem_cons hk, qd3]
theorem q1j (t : List Ent) (c : Ent) : (cutL t c).length ≤ t.length := by
 unfold cutL qeg;split
 ·exact List.length_filter_le _ _
 ·split
  ·exact List.length_filter_le _ _
  ·exact Nat.le_refl _
theorem qnu (e : Ent) (both : Bool) (s : List Ent × Bool) (x : Ent) : (qec e both s x).1.length + (if (qec e both s x).2 then 0 else 1) ≤ s.1.length + (if s.2 then 0 else 1) + 1 := by
 obtain ⟨o, d⟩ := s;unfold qec;by_cases h1 : qal (qaa e.path) (qaa x.path) < 0 ∧ d = false
 ·obtain ⟨h1, rfl⟩ := h1
  simp only [h1, true_and, if_true];split <;> simp
 ·simp only [if_neg h1]
  split
  ·simp
  ·simp; omega
theorem qs1 (t : List Ent) (e : Ent) : (putL t e).length ≤ t.length + 1 := by
 have : ∀ (l : List Ent) (s : List Ent × Bool), (l.foldl (qec e (qhv t e)) s).1.length + (if (l.foldl (qec e (qhv t e)) s).2 then 0 else 1) ≤ s.1.length + (if s.2 then 0 else 1) + l.length := by
  intro l;induction l with
  | nil => intro s; exact Nat.le_refl _
  | cons x r ih => intro s; rw [List.foldl_cons]; have := ih (qec e (qhv t e) s x); have := qnu e (qhv t e) s x; simp only [List.length_cons]; omega
 have h := this t ([], false);unfold putL q2t qs2;generalize t.foldl (qec e (qhv t e)) ([], false) = r at h ⊢;cases hr : r.2 <;> simp [hr] at h ⊢ <;> omega
theorem qx3 {a : List Ent} {c : Ent} (h : c.kind = 5) : qph a c = !decide (qbc a c.path = 1) := by
 unfold qph; rw [h]; simp
theorem qx4 {a : List Ent} {c : Ent} (h : c.kind = 4) : qph a c = decide (qbc a c.path = 0) := by
 unfold qph; rw [h]; simp
theorem q0k {a : List Ent} {c : Ent} (h : c.kind ≠ 4) (h5 : c.kind ≠ 5) : qph a c = false := by
 unfold qph; rw [decide_eq_false h, decide_eq_false h5]; rfl
theorem q4c {t : List Ent} {c : Ent} (h : c.kind = 5) : cutL t c = qeg t c.path false := if_pos h
theorem q4d {t : List Ent} {c : Ent} (h : c.kind = 4) : cutL t c = qeg t c.path true := by unfold cutL; rw [if_neg (by rw [h]; decide), if_pos h]
theorem q3d {t : List Ent} {c : Ent} (h : c.kind ≠ 4) (h5 : c.kind ≠ 5) : cutL t c = t := by unfold cutL; rw [if_neg h5, if_neg h]
theorem qm0 {a l : List Ent} {i : Nat} (h : qdf a l 0 a = .error i) : qee a l = ([], 8, (i : Int)) := by unfold qee; rw [h]
theorem quu {a l t : List Ent} {i : Nat} (h : qdf a l 0 a = .ok t) (h2 : qd3 l 0 t = .error i) : qee a l = ([], 9, (i : Int)) := by unfold qee; rw [h]; simp only [h2]
theorem qri {a l t t2 : List Ent} (h : qdf a l 0 a = .ok t) (h2 : qd3 l 0 t = .ok t2) (h3 : 40 < t2.length) : qee a l = ([], 10, -1) := by unfold qee; rw [h]; simp only [h2, if_pos h3]
theorem qxi {a l t t2 : List Ent} (h : qdf a l 0 a = .ok t) (h2 : qd3 l 0 t = .ok t2) (h3 : ¬ 40 < t2.length) : qee a l = (t2, 0, -1) := by unfold qee; rw [h]; simp only [h2, if_neg h3]
end Go.Proofs.YtikdblkfjchjbaaGreatDoor
