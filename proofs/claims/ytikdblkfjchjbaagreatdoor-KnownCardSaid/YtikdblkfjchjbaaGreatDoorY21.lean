import Derived.Test.YtikdblkfjchjbaaGreatDoorY18
import Derived.Test.YtikdblkfjchjbaaGreatDoorY20
set_option linter.unusedVariables false
set_option linter.unusedSimpArgs false
set_option maxHeartbeats 16000000
set_option maxRecDepth 100000
namespace Go.Proofs.YtikdblkfjchjbaaGreatDoor
open Go.RowKit
structure PieceG where
 text : List UInt8
 var : Bool
 at_ : Nat
 deriving DecidableEq
def addP (l : List PieceG) (c : UInt8) : List PieceG := match l.getLast? with
 | some p => if p.var then l ++ [⟨[c], false, 0⟩] else l.dropLast ++ [⟨p.text ++ [c], false, p.at_⟩]
 | none => [⟨[c], false, 0⟩]
def qqk (l : List PieceG) : Atm → List PieceG
 | .ch c => addP l c
 | .var x p => l ++ [⟨x, true, p⟩]
def qaw (l : List Atm) (acc : List PieceG) : List PieceG := l.foldl qqk acc
theorem qbp (l : List Atm) (acc : List PieceG) (x : Atm) : qaw (l ++ [x]) acc = qqk (qaw l acc) x := by simp [qaw]
theorem qrh (l m : List Atm) (acc : List PieceG) : qaw (l ++ m) acc = qaw m (qaw l acc) := by simp [qaw]
theorem qtm (c : UInt8) : addP [] c = [⟨[c], false, 0⟩] := rfl
theorem qi6 (init : List PieceG) (p : PieceG) (c : UInt8) (h : p.var = true) : addP (init ++ [p]) c = init ++ [p] ++ [⟨[c], false, 0⟩] := by simp [addP, h]
theorem qi7 (init : List PieceG) (p : PieceG) (c : UInt8) (h : p.var = false) : addP (init ++ [p]) c = init ++ [⟨p.text ++ [c], false, p.at_⟩] := by simp [addP, h]
theorem q1u (l : List PieceG) (c : UInt8) : (addP l c).length ≤ l.length + 1 := by
 unfold addP;split
 ·split <;> simp
 ·simp
def PieceG.cells (p : PieceG) : List Value := [.string (S p.text), .bool p.var, .int .i64 p.at_]
def pcs : List PieceG → List Value
 | [] => []
 | p :: r => p.cells ++ pcs r
theorem qfh (l : List PieceG) : (pcs l).length = l.length * 3 := by
 induction l with
 | nil => rfl
 | cons x r ih => simp only [pcs, List.length_append, ih, List.length_cons, PieceG.cells, List.length_nil]; omega
theorem qla (l m : List PieceG) : pcs (l ++ m) = pcs l ++ pcs m := by
 induction l with
 | nil => rfl
 | cons e r ih => simp only [List.cons_append, pcs, ih, List.append_assoc]
theorem q2v (p : PieceG) : pcs [p] = p.cells := by simp [pcs]
abbrev qbd : TypeId := 127
structure Wd (B gw : Nat) (w : World) (l : List PieceG) (p : Nat) (ao : Option Addr) (c : Nat) : Prop where
 own : w.ownsRow B qa4 3 (.slice ao l.length c) l.length (pcs l)
 blk : w.heap[gw]? = some (Obj.cells #[.slice ao l.length c, .int .i64 p] qbd (0, 0))
 hB : B ≤ w.heap.size
 hgw : gw < B
theorem Wd.blk2 {B gw : Nat} {w : World} {l : List PieceG} {p : Nat} {ao : Option Addr} {c : Nat} (h : Wd B gw w l p ao c) : Blk2 w gw (.slice ao l.length c) (.int .i64 p) := ⟨_, h.blk⟩
theorem Wd.after {B gw : Nat} {w w' : World} {l : List PieceG} {p : Nat} {ao : Option Addr} {c : Nat} (h : Wd B gw w l p ao c) (hb : Below w.heap.size w w') : Wd B gw w' l p ao c :=
 ⟨qac h.own hb, (hb.block gw (q41 h.blk).1).trans h.blk, Nat.le_trans h.hB hb.size, h.hgw⟩
theorem Wd.alloc {B gw : Nat} {w : World} {l : List PieceG} {p : Nat} {ao : Option Addr} {c : Nat} (h : Wd B gw w l p ao c) (o : Obj) : Wd B gw (w.alloc o) l p ao c := h.after ((Below.refl _ _).alloc (Nat.le_refl _) o)
theorem Wd.drew {B gw : Nat} {w : World} {l : List PieceG} {p : Nat} {ao : Option Addr} {c : Nat} (h : Wd B gw w l p ao c) : Wd B gw w.drew l p ao c := h.after (Below.refl _ _).drew
theorem Wd.last {B gw : Nat} {w : World} {init : List PieceG} {q : PieceG} {p : Nat} {ao : Option Addr} {c : Nat} (h : Wd B gw w (init ++ [q]) p ao c) :
 ∃ gp, ao = some ⟨gp, 0, none⟩ ∧ gp < w.heap.size ∧ B ≤ gp ∧ w.cell? ⟨gp, init.length * 3, none⟩ = some (.string (S q.text)) ∧ w.cell? ⟨gp, init.length * 3 + 1, none⟩ = some (.bool q.var) ∧ w.frozen? ⟨gp, init.length * 3, none⟩ = false := by
 have h0 := h.own;rcases h.own.2 with ⟨e, e2⟩ | ⟨gp, cap, cur, e, hg, hh, r⟩
 ·simp at e2
 ·simp only [Value.slice.injEq] at e
  obtain ⟨rfl, -, -⟩ := e;have hc := h0.cells (g := gp) rfl;have ha : ∀ j, (⟨gp, 0, none⟩ : Addr).add j = ⟨gp, j, none⟩ := fun j => by unfold Addr.add; split <;> simp_all
  have h1 := hc (init.length * 3) (.string (S q.text)) (by rw [qla, List.getElem?_append_right (by rw [qfh]; omega), qfh]; simp [pcs, PieceG.cells]);have h2 := hc (init.length * 3 + 1) (.bool q.var) (by rw [qla, List.getElem?_append_right (by rw [qfh]; omega), qfh]; simp [pcs, PieceG.cells]);rw [ha] at h1 h2;exact ⟨gp, rfl, (q41 hh).1, hg, h1, h2, frozen_of_row w gp _ _ _ hh⟩
theorem Wd.text {B gw : Nat} {w : World} {init : List PieceG} {q : PieceG} {p gp c : Nat} (h : Wd B gw w (init ++ [q]) p (some ⟨gp, 0, none⟩) c) (t : List UInt8) :
 Wd B gw (w.setCell ⟨gp, init.length * 3, none⟩ (.string (S t))) (init ++ [⟨t, q.var, q.at_⟩]) p (some ⟨gp, 0, none⟩) c := by
 have e : (init ++ [(⟨t, q.var, q.at_⟩ : PieceG)]).length = (init ++ [q]).length := by simp
 obtain ⟨gp', e1, h1, h2, h3, h4, h5⟩ := h.last;simp only [Option.some.injEq, Addr.mk.injEq] at e1;obtain ⟨rfl, -, -⟩ := e1;have hgw := h.hgw;refine ⟨?_, ?_, by rw [World.size_setCell]; exact h.hB, h.hgw⟩
 ·rw [e]
  have := qdo h.own (init.length * 3) (.string (S t)) (by simp only [List.length_append, List.length_cons, List.length_nil]; omega);rw [show (pcs (init ++ [q])).set (init.length * 3) (.string (S t)) = pcs (init ++ [⟨t, q.var, q.at_⟩]) from by
   rw [qla, qla, List.set_append_right _ _ (by rw [qfh]; omega), qfh];simp [pcs, PieceG.cells]] at this
  exact this
 ·rw [e, heap_setCell_other w ⟨gp, init.length * 3, none⟩ gw _ (by show gw ≠ gp; omega)]; exact h.blk
theorem Wd.push {B gw : Nat} {w w2 : World} {l : List PieceG} {p c c' : Nat} {ao ao' : Option Addr} (h : Wd B gw w l p ao c) (q : PieceG)
 (hown : w2.ownsRow B qa4 3 (.slice ao' (l.length + 1) c') (l.length + 1) (pcs l ++ q.cells)) (hg : w.grownBy w2 (Value.slice ao l.length c).ownBlock) :
 Wd B gw (w2.setCell ⟨gw, 0, none⟩ (.slice ao' (l.length + 1) c')) (l ++ [q]) p ao' c' := by
 have hgw := h.hgw;have hne : some gw ≠ (Value.slice ao l.length c).ownBlock := qm1 h.own hgw;have hb := (hg.block gw (q41 h.blk).1 hne).trans h.blk;have e : (l ++ [q]).length = l.length + 1 := by simp
 refine ⟨?_, ?_, by rw [World.size_setCell]; exact Nat.le_trans h.hB hg.size, hgw⟩
 ·rw [e, qla, q2v]; exact ownsRow_setCell_below hown (a := ⟨gw, 0, none⟩) hgw _
 ·rw [e]; exact heap_setCell_same w2 gw 0 _ _ _ hb
theorem Wd.pushN {B gw : Nat} {w w2 : World} {l : List PieceG} {p c c' n : Nat} {ao ao' : Option Addr} (h : Wd B gw w l p ao c) (hn : l.length = n) (q : PieceG)
 (hown : w2.ownsRow B qa4 3 (.slice ao' (n + 1) c') (n + 1) (pcs l ++ q.cells)) (hg : w.grownBy w2 (Value.slice ao n c).ownBlock) :
 Wd B gw (w2.setCell ⟨gw, 0, none⟩ (.slice ao' (n + 1) c')) (l ++ [q]) p ao' c' := by subst hn; exact h.push q hown hg
theorem Wd.ownN {B gw : Nat} {w : World} {l : List PieceG} {p c n : Nat} {ao : Option Addr} (h : Wd B gw w l p ao c) (hn : l.length = n) : w.ownsRow B qa4 3 (.slice ao n c) n (pcs l) := by subst hn; exact h.own
theorem Wd.keptN {B gw : Nat} {w w2 : World} {l : List PieceG} {p c n : Nat} {ao : Option Addr} (h : Wd B gw w l p ao c) (hn : l.length = n) (hg : w.grownBy w2 (Value.slice ao n c).ownBlock) : Blk2 w2 gw (.slice ao n c) (.int .i64 p) := by
 subst hn; exact h.blk2.grown hg (qm1 h.own h.hgw)
theorem Wd.kept {B gw : Nat} {w w2 : World} {l : List PieceG} {p c : Nat} {ao : Option Addr} (h : Wd B gw w l p ao c) (hg : w.grownBy w2 (Value.slice ao l.length c).ownBlock) : Blk2 w2 gw (.slice ao l.length c) (.int .i64 p) := h.blk2.grown hg (qm1 h.own h.hgw)
def qch : List PieceG → List UInt8 → List UInt8 × Bool
 | [], acc => (acc, true)
 | p :: r, acc => if p.var then ([], false) else qch r (acc ++ p.text)
theorem qun {l : List PieceG} {k : Nat} (h : k < l.length) (hv : l[k].var = true) (b : List UInt8) : qch (l.drop k) b = ([], false) := by
 rw [List.drop_eq_getElem_cons h, qch, if_pos hv]
theorem quo {l : List PieceG} {k : Nat} (h : k < l.length) (hv : l[k].var = false) (b : List UInt8) : qch (l.drop k) b = qch (l.drop (k + 1)) (b ++ l[k].text) := by
 rw [List.drop_eq_getElem_cons h, qch, if_neg (by simp [hv])]
theorem qk9 : ∀ (l : List PieceG) (k : Nat) (h : k < l.length), (pcs l)[k * 3]? = some (.string (S l[k].text)) ∧ (pcs l)[k * 3 + 1]? = some (.bool l[k].var) ∧ (pcs l)[k * 3 + 2]? = some (.int .i64 l[k].at_)
 | y :: r, 0, _ => ⟨rfl, rfl, rfl⟩
 | y :: r, k + 1, h => by
  have := qk9 r k (by simpa using h);have e : ∀ j, (pcs (y :: r))[(k + 1) * 3 + j]? = (pcs r)[k * 3 + j]? := by
   intro j;rw [pcs, List.getElem?_append_right (by simp [PieceG.cells]; omega)];congr 1
   simp [PieceG.cells]; omega
  have e0 := e 0;simp only [Nat.add_zero] at e0;simp only [List.getElem_cons_succ, e, e0];exact this
theorem qup (l : List PieceG) (at_ c : Nat) (ao : Option Addr) (w : World) (hl : l.length ≤ 1000000) (ht : ∀ q ∈ l, q.text.length ≤ 1000000) (hrd : Rd w ao (pcs l)) :
 Calls Tryz.prog 80 #[.agg #[.slice ao l.length c, .int .i64 at_]] w fun e w' => e = .returned (.tuple #[.string (S (qch l []).1), .bool (qch l []).2]) ∧ Below w.heap.size w w' := by
 have P := q4z (Blk2.new w (.slice ao l.length c) (.int .i64 at_) qbd);have hbw : Below w.heap.size w (w.alloc (.cells #[.slice ao l.length c, .int .i64 at_] qbd)) := (Below.refl _ _).alloc (Nat.le_refl _) _;have HT := q4z ht;clear ht;go_enter Tryz.func80, Tryz.ntmps80;go_wp2;generalize hW : w.alloc (.cells #[.slice ao l.length c, .int .i64 at_] qbd) = w1 at *;clear hW;go_loopw [4, 10] (fun v i wr => ∃ (b : List UInt8) (k : Nat), i = .int .i64 k ∧ v = .string (S b) ∧ k ≤ l.length ∧ b.length ≤ k * 1000000 ∧ Hid (qch l [] = qch (l.drop k) b) ∧ Below w.heap.size w wr) (fun _ i _ => l.length - (intOf i).toNat)
 case atStart => exact ⟨[], 0, by go_num, rfl, by omega, by simp, rfl, hbw⟩
 case round =>
  obtain ⟨b, k, rfl, rfl, hk, hb, HQ, hbel⟩ := hrel;by_cases hlt : k < l.length
  ·obtain ⟨b2, o, rfl, hb2, hc⟩ := hrd.at (k * 3) (by rw [qfh]; omega)
   obtain ⟨h1, h2, h3⟩ := qk9 l k hlt;have m1 : wr.cell? ⟨b2, o + k * 3, none⟩ = some (.string (S l[k].text)) := (hbel.cell (p := ⟨b2, o + k * 3, none⟩) hb2).trans (hc _ _ h1);have m2 : wr.cell? ⟨b2, o + k * 3 + 1, none⟩ = some (.bool l[k].var) := (hbel.cell (p := ⟨b2, o + k * 3 + 1, none⟩) hb2).trans (hc _ _ h2);have m3 : wr.cell? ⟨b2, o + k * 3 + 2, none⟩ = some (.int .i64 l[k].at_) := (hbel.cell (p := ⟨b2, o + k * 3 + 2, none⟩) hb2).trans (hc _ _ h3);have htx := HT.out l[k] (List.getElem_mem hlt);have hsum : b.length + l[k].text.length ≤ 9223372036854775807 := by
    have : k * 1000000 ≤ 1000000 * 1000000 := Nat.mul_le_mul_right _ (by omega);omega
   have hsz := hbel.size;clear h1 h2 h3 hc;cases hv : l[k].var
   ·have Y := q4z (show qch l [] = qch (l.drop (k + 1)) (b ++ l[k].text) by rw [HQ.out]; exact quo hlt hv b)
    rw [hv] at m2;clear HQ hv;go_wp2;go_roundw
    case rel => exact ⟨b ++ l[k].text, k + 1, by go_num, rfl, by omega, by simp; omega, Y, hbel.alloc (by omega) _⟩
    case measure => simp [intOf]; omega
   ·have Y := q4z (show qch l [] = ([], false) by rw [HQ.out]; exact qun hlt hv b)
    rw [hv] at m2;clear HQ hv;go_wp2;go_returns;refine ⟨?_, hbel.alloc (by omega) _⟩;rw [Y.out]; rfl
  ·have Y := q4z (show qch l [] = (b, true) by rw [HQ.out, List.drop_of_length_le (by omega), qch])
   clear HQ;go_wp2;go_returns;refine ⟨?_, hbel⟩;rw [Y.out]; rfl
theorem qrg (l : List Atm) (x : Atm) (acc : List UInt8) : qb9 (l ++ [x]) acc = match x with
 | .ch c => if (qb9 l acc).2 then ((qb9 l acc).1 ++ [c], true) else ([], false)
 | .var _ _ => ([], false) := by
 induction l generalizing acc with
 | nil => cases x <;> simp [qb9]
 | cons y r ih =>
  cases y with
  | ch c => simp only [List.cons_append, qb9]; exact ih _
  | var n p => cases x <;> simp [qb9]
theorem qus (l : List Atm) (acc : List UInt8) (h : (qb9 l acc).2 = false) : qb9 l acc = ([], false) := by
 induction l generalizing acc with
 | nil => simp [qb9] at h
 | cons y r ih =>
  cases y with
  | ch c => rw [qb9] at h ⊢; exact ih _ h
  | var n p => rfl
theorem qev (l : List PieceG) (q : PieceG) (acc : List UInt8) : qch (l ++ [q]) acc = if (qch l acc).2 = true ∧ q.var = false then ((qch l acc).1 ++ q.text, true) else ([], false) := by
 induction l generalizing acc with
 | nil => cases hv : q.var <;> simp [qch, hv]
 | cons y r ih =>
  simp only [List.cons_append, qch];split
  ·simp
  ·exact ih _
theorem qum (l : List Atm) : qch (qaw l []) [] = qb9 l [] := by
 induction hn : l.length generalizing l with
 | zero => rw [List.eq_nil_of_length_eq_zero hn]; rfl
 | succ n ihn =>
  rcases List.eq_nil_or_concat l with rfl | ⟨l, x, rfl⟩
  ·simp at hn
  rw [List.concat_eq_append] at hn ⊢;have ih := ihn l (by simpa using hn);rw [qbp, qrg];cases x with
  | var n p => simp only [qqk]; rw [qev]; simp
  | ch c =>
   simp only [qqk];rw [← ih];generalize qaw l [] = L;rcases List.eq_nil_or_concat L with rfl | ⟨init, q, rfl⟩
   ·simp [addP, qch]
   ·rw [List.concat_eq_append]
    cases hv : q.var
    ·rw [qi7 init q c hv, qev, qev]
     cases (qch init []).2 <;> simp [hv]
    ·rw [qi6 init q c hv, qev, qev]
     simp [hv]
abbrev qas : TypeId := 118
abbrev qam : TypeId := 123
def WordG.pl (w : WordG) : List PieceG := qaw w.l []
def qdq (op : List UInt8) : Int := if op = qco then 0 else if op = qge then 1 else if op = wADD then 2 else if op = wRM then 3 else if op = qdy then 4 else if op = qkr then 5 else if op = wENV then 6 else if op = qc6 then 7 else -1
def FWordCells (w : World) : List WordG → List Value → Prop
 | [], cs => cs = []
 | x :: r, cs => ∃ a rest, cs = a :: .int .i64 x.at_ :: rest ∧ w.ownsRow 0 qa4 3 a x.pl.length (pcs x.pl) ∧ FWordCells w r rest
theorem FWordCells.len {w : World} : ∀ {ws : List WordG} {cs : List Value}, FWordCells w ws cs → cs.length = ws.length * 2
 | [], cs, h => by simp [FWordCells] at h; simp [h]
 | x :: r, cs, h => by
  obtain ⟨a, rest, rfl, _, hr⟩ := h;have := hr.len;simp [this]; omega
theorem FWordCells.app {w : World} {y : WordG} {b : Value} (hb : w.ownsRow 0 qa4 3 b y.pl.length (pcs y.pl)) : ∀ {ws : List WordG} {cs : List Value}, FWordCells w ws cs → FWordCells w (ws ++ [y]) (cs ++ [b, .int .i64 y.at_])
 | [], cs, h => by simp [FWordCells] at h; subst h; exact ⟨b, [], rfl, hb, rfl⟩
 | x :: r, cs, h => by
  obtain ⟨a, rest, rfl, ha, hr⟩ := h;exact ⟨a, rest ++ [b, .int .i64 y.at_], rfl, ha, hr.app hb⟩
theorem FWordCells.keep {w w' : World} (hk : KeepT qa4 w w') : ∀ {ws : List WordG} {cs : List Value}, FWordCells w ws cs → FWordCells w' ws cs
 | [], cs, h => h
 | x :: r, cs, h => by
  obtain ⟨a, rest, rfl, ha, hr⟩ := h;exact ⟨a, rest, rfl, qan ha hk, hr.keep hk⟩
theorem FWordCells.get {w : World} : ∀ {ws : List WordG} {cs : List Value}, FWordCells w ws cs → ∀ k (h : k < ws.length), ∃ ao c, cs[k * 2]? = some (.slice ao ws[k].pl.length c) ∧ cs[k * 2 + 1]? = some (.int .i64 ws[k].at_) ∧ w.ownsRow 0 qa4 3 (.slice ao ws[k].pl.length c) ws[k].pl.length (pcs ws[k].pl)
 | x :: r, cs, h, 0, _ => by
  obtain ⟨a, rest, rfl, ha, hr⟩ := h;obtain ⟨ao, c, rfl⟩ := qad ha;exact ⟨ao, c, rfl, rfl, ha⟩
 | x :: r, cs, h, k + 1, hk => by
  obtain ⟨a, rest, rfl, ha, hr⟩ := h;obtain ⟨ao, c, h1, h2, h3⟩ := hr.get k (by simpa using hk);refine ⟨ao, c, ?_, ?_, h3⟩
  ·rw [show (k + 1) * 2 = k * 2 + 1 + 1 by omega]; simpa using h1
  ·rw [show (k + 1) * 2 + 1 = k * 2 + 1 + 1 + 1 by omega]; simpa using h2
theorem FWordCells.drop {w : World} : ∀ {ws : List WordG} {cs : List Value}, FWordCells w ws cs → ∀ k, FWordCells w (ws.drop k) (cs.drop (k * 2))
 | ws, cs, h, 0 => by simpa using h
 | [], cs, h, k + 1 => by simp [FWordCells] at h; subst h; simp [FWordCells]
 | x :: r, cs, h, k + 1 => by
  obtain ⟨a, rest, rfl, ha, hr⟩ := h;rw [show (k + 1) * 2 = k * 2 + 1 + 1 by omega];simpa using hr.drop k
def FWordsR (w : World) (A : Option Addr) (ws : List WordG) : Prop := ∃ cs, RdT qbd w A cs ∧ FWordCells w ws cs
theorem FWordsR.keep {w w' : World} {A : Option Addr} {ws : List WordG} (h : FWordsR w A ws) (h1 : KeepT qbd w w') (h2 : KeepT qa4 w w') : FWordsR w' A ws := by
 obtain ⟨cs, a, b⟩ := h;exact ⟨cs, a.keep h1, b.keep h2⟩
theorem FWordsR.drop {w : World} {b o : Nat} {ws : List WordG} (h : FWordsR w (some ⟨b, o, none⟩) ws) (k : Nat) : FWordsR w (some ⟨b, o + k * 2, none⟩) (ws.drop k) := by
 obtain ⟨cs, h1, h2⟩ := h;exact ⟨_, h1.drop (k * 2), h2.drop k⟩
def FStepCells (w : World) : List StepG → List Value → Prop
 | [], cs => cs = []
 | x :: r, cs => ∃ A c rest, cs = .int .i64 (qdq x.op) :: .slice A x.words.length c :: .int .i64 x.stage :: .int .i64 x.at_ :: rest ∧ FWordsR w A x.words ∧ FStepCells w r rest
theorem FStepCells.len {w : World} : ∀ {l : List StepG} {cs : List Value}, FStepCells w l cs → cs.length = l.length * 4
 | [], cs, h => by simp [FStepCells] at h; simp [h]
 | x :: r, cs, h => by
  obtain ⟨A, c, rest, rfl, _, hr⟩ := h;have := hr.len;simp [this]; omega
theorem FStepCells.keep {w w' : World} (h1 : KeepT qbd w w') (h2 : KeepT qa4 w w') : ∀ {l : List StepG} {cs : List Value}, FStepCells w l cs → FStepCells w' l cs
 | [], cs, h => h
 | x :: r, cs, h => by
  obtain ⟨A, c, rest, rfl, ha, hr⟩ := h;exact ⟨A, c, rest, rfl, ha.keep h1 h2, hr.keep h1 h2⟩
theorem FStepCells.app {w : World} {y : StepG} {A : Option Addr} {c : Nat} (hy : FWordsR w A y.words) : ∀ {l : List StepG} {cs : List Value}, FStepCells w l cs → FStepCells w (l ++ [y]) (cs ++ [.int .i64 (qdq y.op), .slice A y.words.length c, .int .i64 y.stage, .int .i64 y.at_])
 | [], cs, h => by simp [FStepCells] at h; subst h; exact ⟨A, c, [], rfl, hy, rfl⟩
 | x :: r, cs, h => by
  obtain ⟨A', c', rest, rfl, ha, hr⟩ := h;exact ⟨A', c', _, rfl, ha, hr.app hy⟩
theorem FStepCells.get {w : World} : ∀ {l : List StepG} {cs : List Value}, FStepCells w l cs → ∀ k (h : k < l.length), ∃ A c, cs[k * 4]? = some (.int .i64 (qdq l[k].op)) ∧ cs[k * 4 + 1]? = some (.slice A l[k].words.length c) ∧ cs[k * 4 + 2]? = some (.int .i64 l[k].stage) ∧ cs[k * 4 + 3]? = some (.int .i64 l[k].at_) ∧ FWordsR w A l[k].words
 | x :: r, cs, h, 0, _ => by
  obtain ⟨A, c, rest, rfl, ha, hr⟩ := h;exact ⟨A, c, rfl, rfl, rfl, rfl, ha⟩
 | x :: r, cs, h, k + 1, hk => by
  obtain ⟨A, c, rest, rfl, ha, hr⟩ := h;obtain ⟨A', c', h1, h2, h3, h4, h5⟩ := hr.get k (by simpa using hk);refine ⟨A', c', ?_, ?_, ?_, ?_, h5⟩
  ·rw [show (k + 1) * 4 = k * 4 + 1 + 1 + 1 + 1 by omega]; simpa using h1
  ·rw [show (k + 1) * 4 + 1 = k * 4 + 1 + 1 + 1 + 1 + 1 by omega]; simpa using h2
  ·rw [show (k + 1) * 4 + 2 = k * 4 + 2 + 1 + 1 + 1 + 1 by omega]; simpa using h3
  ·rw [show (k + 1) * 4 + 3 = k * 4 + 3 + 1 + 1 + 1 + 1 by omega]; simpa using h4
structure FStageAt (lo hi : Nat) (w : World) (x : StageG) (sv vv : Value) : Prop where
 steps : ∃ scs, w.ownsRow lo qam 4 sv x.steps.length scs ∧ FStepCells w x.steps scs
 vars : w.ownsRow lo qbh 1 vv x.vars.length (strs x.vars)
 shi : ∀ g, sv.ownBlock = some g → g < hi
 vhi : ∀ g, vv.ownBlock = some g → g < hi
theorem FStageAt.mono {lo hi lo' hi' : Nat} {w : World} {x : StageG} {sv vv : Value} (h : FStageAt lo hi w x sv vv) (h1 : lo' ≤ lo) (h2 : hi ≤ hi') : FStageAt lo' hi' w x sv vv := by
 obtain ⟨scs, a, b⟩ := h.steps;exact ⟨⟨scs, qaq a h1, b⟩, qaq h.vars h1, fun g e => Nat.lt_of_lt_of_le (h.shi g e) h2, fun g e => Nat.lt_of_lt_of_le (h.vhi g e) h2⟩
theorem FStageAt.stays {lo hi : Nat} {w w' : World} {x : StageG} {sv vv : Value} (h : FStageAt lo hi w x sv vv) (h1 : KeepT qbd w w') (h2 : KeepT qa4 w w')
 (hs : ∀ g cur, g < hi → w.heap[g]? = some (Obj.cells cur qam (0, 0)) → w'.heap[g]? = some (Obj.cells cur qam (0, 0)))
 (hv : ∀ g cur, g < hi → w.heap[g]? = some (Obj.cells cur qbh (0, 0)) → w'.heap[g]? = some (Obj.cells cur qbh (0, 0))) : FStageAt lo hi w' x sv vv := by
 obtain ⟨⟨scs, ⟨a1, a2⟩, b⟩, ⟨v1, v2⟩, c, d⟩ := h;refine ⟨⟨scs, ⟨a1, ?_⟩, b.keep h1 h2⟩, ⟨v1, ?_⟩, c, d⟩
 ·rcases a2 with a2 | ⟨g, cap, cur, rfl, hg, hh, r⟩
  ·exact .inl a2
  ·exact .inr ⟨g, cap, cur, rfl, hg, hs g cur (c g rfl) hh, r⟩
 ·rcases v2 with v2 | ⟨g, cap, cur, rfl, hg, hh, r⟩
  ·exact .inl v2
  ·exact .inr ⟨g, cap, cur, rfl, hg, hv g cur (d g rfl) hh, r⟩
def FStageCells (lo hi : Nat) (w : World) : List StageG → List Value → Prop
 | [], cs => cs = []
 | x :: r, cs => ∃ sv vv rest, cs = .string (S x.name) :: .int .i64 x.base :: sv :: vv :: rest ∧ FStageAt lo hi w x sv vv ∧ FStageCells lo hi w r rest
theorem FStageCells.len {lo hi : Nat} {w : World} : ∀ {l : List StageG} {cs : List Value}, FStageCells lo hi w l cs → cs.length = l.length * 4
 | [], cs, h => by simp [FStageCells] at h; simp [h]
 | x :: r, cs, h => by
  obtain ⟨sv, vv, rest, rfl, _, hr⟩ := h;have := hr.len;simp [this]; omega
theorem FStageCells.mono {lo hi lo' hi' : Nat} {w : World} (h1 : lo' ≤ lo) (h2 : hi ≤ hi') : ∀ {l : List StageG} {cs : List Value}, FStageCells lo hi w l cs → FStageCells lo' hi' w l cs
 | [], cs, h => h
 | x :: r, cs, h => by
  obtain ⟨sv, vv, rest, rfl, ha, hr⟩ := h;exact ⟨sv, vv, rest, rfl, ha.mono h1 h2, hr.mono h1 h2⟩
theorem FStageCells.stays {lo hi : Nat} {w w' : World} (h1 : KeepT qbd w w') (h2 : KeepT qa4 w w')
 (hs : ∀ g cur, g < hi → w.heap[g]? = some (Obj.cells cur qam (0, 0)) → w'.heap[g]? = some (Obj.cells cur qam (0, 0)))
 (hv : ∀ g cur, g < hi → w.heap[g]? = some (Obj.cells cur qbh (0, 0)) → w'.heap[g]? = some (Obj.cells cur qbh (0, 0))) : ∀ {l : List StageG} {cs : List Value}, FStageCells lo hi w l cs → FStageCells lo hi w' l cs
 | [], cs, h => h
 | x :: r, cs, h => by
  obtain ⟨sv, vv, rest, rfl, ha, hr⟩ := h;exact ⟨sv, vv, rest, rfl, ha.stays h1 h2 hs hv, hr.stays h1 h2 hs hv⟩
theorem FStageCells.app {lo hi : Nat} {w : World} : ∀ {l m : List StageG} {cs ds : List Value}, FStageCells lo hi w l cs → FStageCells lo hi w m ds → FStageCells lo hi w (l ++ m) (cs ++ ds)
 | [], m, cs, ds, h, k => by simp [FStageCells] at h; subst h; exact k
 | x :: r, m, cs, ds, h, k => by
  obtain ⟨sv, vv, rest, rfl, ha, hr⟩ := h;exact ⟨sv, vv, rest ++ ds, rfl, ha, hr.app k⟩
theorem FStageCells.get {lo hi : Nat} {w : World} : ∀ {l : List StageG} {cs : List Value}, FStageCells lo hi w l cs → ∀ k (h : k < l.length), ∃ sv vv, cs[k * 4]? = some (.string (S l[k].name)) ∧ cs[k * 4 + 1]? = some (.int .i64 l[k].base) ∧ cs[k * 4 + 2]? = some sv ∧ cs[k * 4 + 3]? = some vv ∧ FStageAt lo hi w l[k] sv vv
 | x :: r, cs, h, 0, _ => by
  obtain ⟨sv, vv, rest, rfl, ha, hr⟩ := h;exact ⟨sv, vv, rfl, rfl, rfl, rfl, ha⟩
 | x :: r, cs, h, k + 1, hk => by
  obtain ⟨sv, vv, rest, rfl, ha, hr⟩ := h;obtain ⟨sv', vv', h1, h2, h3, h4, h5⟩ := hr.get k (by simpa using hk);refine ⟨sv', vv', ?_, ?_, ?_, ?_, h5⟩
  ·rw [show (k + 1) * 4 = k * 4 + 1 + 1 + 1 + 1 by omega]; simpa using h1
  ·rw [show (k + 1) * 4 + 1 = k * 4 + 1 + 1 + 1 + 1 + 1 by omega]; simpa using h2
  ·rw [show (k + 1) * 4 + 2 = k * 4 + 2 + 1 + 1 + 1 + 1 by omega]; simpa using h3
  ·rw [show (k + 1) * 4 + 3 = k * 4 + 3 + 1 + 1 + 1 + 1 by omega]; simpa using h4
structure FStagesR (B : Nat) (w : World) (l : List StageG) (ao : Option Addr) (c : Nat) : Prop where
 lies : ∃ (H : Nat) (init last : List StageG) (cs0 cs1 : List Value), l = init ++ last ∧ last.length ≤ 1 ∧ (last = [] → init = []) ∧ H ≤ w.heap.size ∧ B ≤ H ∧
  w.ownsRow B qas 4 (.slice ao l.length c) l.length (cs0 ++ cs1) ∧ FStageCells B H w init cs0 ∧ FStageCells H w.heap.size w last cs1
theorem FStagesR.nil (B : Nat) (w : World) (h : B ≤ w.heap.size) : FStagesR B w [] none 0 :=
 ⟨B, [], [], [], [], rfl, by simp, by simp, h, Nat.le_refl _, World.ownsRow_nil _ _ _ _, rfl, rfl⟩
theorem FStagesR.all {B : Nat} {w : World} {l : List StageG} {ao : Option Addr} {c : Nat} (h : FStagesR B w l ao c) : ∃ cs, w.ownsRow B qas 4 (.slice ao l.length c) l.length cs ∧ FStageCells B w.heap.size w l cs := by
 obtain ⟨H, init, last, cs0, cs1, rfl, h1, h2, h3, h4, h5, h6, h7⟩ := h.lies;exact ⟨_, h5, (h6.mono (Nat.le_refl _) h3).app (h7.mono h4 (Nat.le_refl _))⟩
theorem FStagesR.after {B : Nat} {w w' : World} {l : List StageG} {ao : Option Addr} {c : Nat} (h : FStagesR B w l ao c) (hb : Below w.heap.size w w') : FStagesR B w' l ao c := by
 obtain ⟨H, init, last, cs0, cs1, rfl, h1, h2, h3, h4, h5, h6, h7⟩ := h.lies;have hT : ∀ T, KeepT T w w' := fun T => KeepT.below hb
 refine ⟨H, init, last, cs0, cs1, rfl, h1, h2, Nat.le_trans h3 hb.size, h4, qan h5 (hT _), ?_, ?_⟩
 ·exact h6.stays (hT _) (hT _) (fun g cur _ e => hT _ g cur e) (fun g cur _ e => hT _ g cur e)
 ·exact (h7.stays (hT _) (hT _) (fun g cur _ e => hT _ g cur e) (fun g cur _ e => hT _ g cur e)).mono (Nat.le_refl _) hb.size
theorem FStagesR.keep {B : Nat} {w w' : World} {l : List StageG} {ao : Option Addr} {c : Nat} (h : FStagesR B w l ao c) (h1 : KeepT qas w w') (h2 : KeepT qam w w') (h3 : KeepT qbh w w') (h4 : KeepT qbd w w') (h5 : KeepT qa4 w w') (hs : w.heap.size ≤ w'.heap.size) : FStagesR B w' l ao c := by
 obtain ⟨H, init, last, cs0, cs1, rfl, e1, e2, e3, e4, e5, e6, e7⟩ := h.lies;refine ⟨H, init, last, cs0, cs1, rfl, e1, e2, Nat.le_trans e3 hs, e4, qan e5 h1, ?_, ?_⟩
 ·exact e6.stays h4 h5 (fun g cur _ e => h2 g cur e) (fun g cur _ e => h3 g cur e)
 ·exact (e7.stays h4 h5 (fun g cur _ e => h2 g cur e) (fun g cur _ e => h3 g cur e)).mono (Nat.le_refl _) hs
def FKeepX (w w' : World) : Prop := ∀ T, T ≠ qas → T ≠ qam → T ≠ qbh → KeepT T w w'
theorem FKeepX.below {w w' : World} (h : Below w.heap.size w w') : FKeepX w w' := fun _ _ _ _ => KeepT.below h
theorem FStagesR.push {B : Nat} {w wx w2 : World} {st : List StageG} {x : StageG} {ao ao' : Option Addr} {c c' : Nat} {cs : List Value} {sv vv : Value}
 (hown : w.ownsRow B qas 4 (.slice ao st.length c) st.length cs) (hsc : FStageCells B w.heap.size w st cs) (hb : Below w.heap.size w wx) (hg : wx.grownBy w2 (Value.slice ao st.length c).ownBlock)
 (hx : FStageAt w.heap.size wx.heap.size wx x sv vv) (hown2 : w2.ownsRow B qas 4 (.slice ao' (st.length + 1) c') (st.length + 1) (cs ++ [.string (S x.name), .int .i64 x.base, sv, vv])) (hB : B ≤ w.heap.size) :
 FStagesR B w2 (st ++ [x]) ao' c' ∧ FKeepX w w2 := by
 have hownx := qac hown hb;have hT : ∀ T, T ≠ qas → KeepT T wx w2 := fun T h => KeepT.grown hg hownx (fun e => h e.symm)
 have hT' : ∀ T, T ≠ qas → KeepT T w w2 := fun T h => (KeepT.below hb).trans (hT T h)
 refine ⟨⟨w.heap.size, st, [x], cs, [.string (S x.name), .int .i64 x.base, sv, vv], rfl, by simp, by simp, Nat.le_trans hb.size hg.size, hB, ?_, ?_, ?_⟩, fun T h _ _ => hT' T h⟩
 ·rw [List.length_append]; exact hown2
 ·exact hsc.stays (hT' _ (by decide)) (hT' _ (by decide)) (fun g cur _ e => hT' qam (by decide) g cur e) (fun g cur _ e => hT' qbh (by decide) g cur e)
 ·exact ⟨sv, vv, [], rfl, (hx.stays (hT _ (by decide)) (hT _ (by decide)) (fun g cur _ e => hT qam (by decide) g cur e) (fun g cur _ e => hT qbh (by decide) g cur e)).mono (Nat.le_refl _) hg.size, rfl⟩
theorem FKeepX.trans {a b c : World} (h : FKeepX a b) (k : FKeepX b c) : FKeepX a c := fun T h1 h2 h3 => (h T h1 h2 h3).trans (k T h1 h2 h3)
structure FLastR (B H : Nat) (w : World) (init : List StageG) (y : StageG) (gb c : Nat) (cs0 : List Value) (sv vv : Value) (scs : List Value) : Prop where
 own : w.ownsRow B qas 4 (.slice (some ⟨gb, 0, none⟩) (init.length + 1) c) (init.length + 1) (cs0 ++ [.string (S y.name), .int .i64 y.base, sv, vv])
 ini : FStageCells B H w init cs0
 steps : w.ownsRow H qam 4 sv y.steps.length scs
 cells : FStepCells w y.steps scs
 vars : w.ownsRow H qbh 1 vv y.vars.length (strs y.vars)
 hH : H ≤ w.heap.size
 hB : B ≤ H
theorem FStagesR.last {B : Nat} {w : World} {st : List StageG} {ao : Option Addr} {c : Nat} (h : FStagesR B w st ao c) (hne : st ≠ []) :
 ∃ H init y gb cs0 sv vv scs, st = init ++ [y] ∧ ao = some ⟨gb, 0, none⟩ ∧ FLastR B H w init y gb c cs0 sv vv scs := by
 obtain ⟨H, init, last, cs0, cs1, rfl, h1, h2, h3, h4, h5, h6, h7⟩ := h.lies;match last, h1, h2, h7, h5, hne with
 | [], _, h2, _, _, hne => exact absurd (by simp [h2 rfl]) hne
 | [y], _, _, h7, h5, _ =>
  obtain ⟨sv, vv, rest, rfl, ha, hr⟩ := h7;simp only [FStageCells] at hr;subst hr;obtain ⟨scs, a1, a2⟩ := ha.steps;have h5' := h5;rcases h5.2 with ⟨e, e2⟩ | ⟨gb, cap, cur, e, r⟩
  ·simp at e2
  ·simp only [Value.slice.injEq] at e
   obtain ⟨rfl, -, -⟩ := e;rw [List.length_append] at h5';exact ⟨H, init, y, gb, cs0, sv, vv, scs, rfl, rfl, h5', h6, a1, a2, ha.vars, h3, h4⟩
theorem FLastR.stages {B H : Nat} {w : World} {init : List StageG} {y : StageG} {gb c : Nat} {cs0 : List Value} {sv vv : Value} {scs : List Value} (h : FLastR B H w init y gb c cs0 sv vv scs) : FStagesR B w (init ++ [y]) (some ⟨gb, 0, none⟩) c := by
 refine ⟨H, init, [y], cs0, _, rfl, by simp, by simp, h.hH, h.hB, ?_, h.ini, ⟨sv, vv, [], rfl, ⟨⟨scs, h.steps, h.cells⟩, h.vars, qs3 h.steps, qs3 h.vars⟩, rfl⟩⟩;rw [List.length_append]; exact h.own
theorem FLastR.facts {B H : Nat} {w : World} {init : List StageG} {y : StageG} {gb c : Nat} {cs0 : List Value} {sv vv : Value} {scs : List Value} (h : FLastR B H w init y gb c cs0 sv vv scs) :
 gb < w.heap.size ∧ w.cell? ⟨gb, init.length * 4 + 2, none⟩ = some sv ∧ w.cell? ⟨gb, init.length * 4 + 3, none⟩ = some vv ∧ w.frozen? ⟨gb, init.length * 4 + 2, none⟩ = false ∧ w.frozen? ⟨gb, init.length * 4 + 3, none⟩ = false := by
 have hl := h.ini.len;have hc := h.own.cells (g := gb) rfl;have ha : ∀ j, (⟨gb, 0, none⟩ : Addr).add j = ⟨gb, j, none⟩ := fun j => by unfold Addr.add; split <;> simp_all
 have h2 := hc (init.length * 4 + 2) sv (by rw [List.getElem?_append_right (by omega), hl]; simp);have h3 := hc (init.length * 4 + 3) vv (by rw [List.getElem?_append_right (by omega), hl]; simp);rw [ha] at h2 h3;rcases h.own.2 with ⟨e, _⟩ | ⟨gb', cap, cur, e, hg, hh, r⟩
 ·simp at e
 ·simp only [Value.slice.injEq, Option.some.injEq, Addr.mk.injEq] at e
  obtain ⟨⟨rfl, -, -⟩, -, -⟩ := e;exact ⟨(q41 hh).1, h2, h3, frozen_of_row w gb _ _ _ hh, frozen_of_row w gb _ _ _ hh⟩
theorem FLastR.blkT {B H : Nat} {w : World} {init : List StageG} {y : StageG} {gb c : Nat} {cs0 : List Value} {sv vv : Value} {scs : List Value} (h : FLastR B H w init y gb c cs0 sv vv scs) : BlkT w gb qas ∧ B ≤ gb := by
 rcases h.own.2 with ⟨e, _⟩ | ⟨gb', cap, cur, e, hg, hh, r⟩
 ·simp at e
 ·simp only [Value.slice.injEq, Option.some.injEq, Addr.mk.injEq] at e
  obtain ⟨⟨rfl, -, -⟩, -, -⟩ := e;exact ⟨⟨_, hh⟩, hg⟩
theorem FLastR.after {B H : Nat} {w w' : World} {init : List StageG} {y : StageG} {gb c : Nat} {cs0 : List Value} {sv vv : Value} {scs : List Value} (h : FLastR B H w init y gb c cs0 sv vv scs) (hb : Below w.heap.size w w') : FLastR B H w' init y gb c cs0 sv vv scs := by
 have hT : ∀ T, KeepT T w w' := fun T => KeepT.below hb
 exact ⟨qan h.own (hT _), h.ini.stays (hT _) (hT _) (fun g cur _ e => hT _ g cur e) (fun g cur _ e => hT _ g cur e), qan h.steps (hT _), h.cells.keep (hT _) (hT _), qan h.vars (hT _), Nat.le_trans h.hH hb.size, h.hB⟩
theorem FLastR.pushVar {B H : Nat} {w w2 : World} {init : List StageG} {y : StageG} {gb c : Nat} {cs0 : List Value} {sv vv vv' : Value} {scs : List Value} {x : List UInt8} (h : FLastR B H w init y gb c cs0 sv vv scs)
 (hg : w.grownBy w2 vv.ownBlock) (hown : w2.ownsRow H qbh 1 vv' (y.vars.length + 1) (strs y.vars ++ [.string (S x)])) :
 FLastR B H (w2.setCell ⟨gb, init.length * 4 + 3, none⟩ vv') init ⟨y.name, y.base, y.steps, y.vars ++ [x]⟩ gb c cs0 sv vv' scs ∧ FKeepX w (w2.setCell ⟨gb, init.length * 4 + 3, none⟩ vv') ∧ Below B w (w2.setCell ⟨gb, init.length * 4 + 3, none⟩ vv') := by
 have hT : ∀ T, T ≠ qbh → KeepT T w w2 := fun T hne => KeepT.grown hg h.vars (fun e => hne e.symm)
 obtain ⟨⟨cs, hbt⟩, hBg⟩ := h.blkT;have hb2 : BlkT w2 gb qas := ⟨cs, hT qas (by decide) gb cs hbt⟩;have hS : ∀ T, T ≠ qas → KeepT T w2 (w2.setCell ⟨gb, init.length * 4 + 3, none⟩ vv') := fun T hne => KeepT.setT hb2 (fun e => hne e.symm) _ _
 have hTT : ∀ T, T ≠ qbh → T ≠ qas → KeepT T w (w2.setCell ⟨gb, init.length * 4 + 3, none⟩ vv') := fun T h1 h2 => (hT T h1).trans (hS T h2)
 have hlow : ∀ g cur, g < H → w.heap[g]? = some (Obj.cells cur qbh (0, 0)) → (w2.setCell ⟨gb, init.length * 4 + 3, none⟩ vv').heap[g]? = some (Obj.cells cur qbh (0, 0)) := by
  intro g cur hgH e;refine hS qbh (by decide) g cur ((hg.block g (q41 e).1 ?_).trans e);intro e2; have := qd4 h.vars g e2.symm; omega
 refine ⟨⟨?_, ?_, qan h.steps (hTT _ (by decide) (by decide)), h.cells.keep (hTT _ (by decide) (by decide)) (hTT _ (by decide) (by decide)), ?_, ?_, h.hB⟩, fun T h1 h2 h3 => hTT T h3 h1, ?_⟩
 ·have := qdo (qan h.own (hT _ (by decide))) (init.length * 4 + 3) vv' (by omega)
  rwa [qz1 _ _ _ _ _ _ _ h.ini.len] at this
 ·exact h.ini.stays (hTT _ (by decide) (by decide)) (hTT _ (by decide) (by decide)) (fun g cur _ e => hTT qam (by decide) (by decide) g cur e) hlow
 ·show World.ownsRow _ H qbh 1 vv' (y.vars ++ [x]).length (strs (y.vars ++ [x]))
  rw [List.length_append, show strs (y.vars ++ [x]) = strs y.vars ++ [.string (S x)] by simp [strs]];exact qan hown (hS _ (by decide))
 ·rw [World.size_setCell]; exact Nat.le_trans h.hH hg.size
 ·exact Below.setCell ((Below.refl B w).grown hg (Nat.le_trans h.hB h.hH) (fun k hk => Nat.le_trans h.hB (qd4 h.vars k hk))) hBg _
theorem FLastR.pushStep {B H : Nat} {w w2 : World} {init : List StageG} {y : StageG} {gb c : Nat} {cs0 : List Value} {sv vv sv' : Value} {scs : List Value} {x : StepG} {A : Option Addr} {d : Nat} (h : FLastR B H w init y gb c cs0 sv vv scs)
 (hx : FWordsR w A x.words) (hg : w.grownBy w2 sv.ownBlock) (hown : w2.ownsRow H qam 4 sv' (y.steps.length + 1) (scs ++ [.int .i64 (qdq x.op), .slice A x.words.length d, .int .i64 x.stage, .int .i64 x.at_])) :
 ∃ scs', FLastR B H (w2.setCell ⟨gb, init.length * 4 + 2, none⟩ sv') init ⟨y.name, y.base, y.steps ++ [x], y.vars⟩ gb c cs0 sv' vv scs' ∧ FKeepX w (w2.setCell ⟨gb, init.length * 4 + 2, none⟩ sv') ∧ Below B w (w2.setCell ⟨gb, init.length * 4 + 2, none⟩ sv') := by
 have hT : ∀ T, T ≠ qam → KeepT T w w2 := fun T hne => KeepT.grown hg h.steps (fun e => hne e.symm)
 obtain ⟨⟨cs, hbt⟩, hBg⟩ := h.blkT;have hb2 : BlkT w2 gb qas := ⟨cs, hT qas (by decide) gb cs hbt⟩;have hS : ∀ T, T ≠ qas → KeepT T w2 (w2.setCell ⟨gb, init.length * 4 + 2, none⟩ sv') := fun T hne => KeepT.setT hb2 (fun e => hne e.symm) _ _
 have hTT : ∀ T, T ≠ qam → T ≠ qas → KeepT T w (w2.setCell ⟨gb, init.length * 4 + 2, none⟩ sv') := fun T h1 h2 => (hT T h1).trans (hS T h2)
 have hlow : ∀ g cur, g < H → w.heap[g]? = some (Obj.cells cur qam (0, 0)) → (w2.setCell ⟨gb, init.length * 4 + 2, none⟩ sv').heap[g]? = some (Obj.cells cur qam (0, 0)) := by
  intro g cur hgH e;refine hS qam (by decide) g cur ((hg.block g (q41 e).1 ?_).trans e);intro e2; have := qd4 h.steps g e2.symm; omega
 refine ⟨_, ⟨?_, ?_, ?_, (h.cells.app (c := d) hx).keep (hTT _ (by decide) (by decide)) (hTT _ (by decide) (by decide)), qan h.vars (hTT _ (by decide) (by decide)), ?_, h.hB⟩, fun T h1 h2 h3 => hTT T h2 h1, ?_⟩
 ·have := qdo (qan h.own (hT _ (by decide))) (init.length * 4 + 2) sv' (by omega)
  rwa [qz2 _ _ _ _ _ _ _ h.ini.len] at this
 ·exact h.ini.stays (hTT _ (by decide) (by decide)) (hTT _ (by decide) (by decide)) hlow (fun g cur _ e => hTT qbh (by decide) (by decide) g cur e)
 ·show World.ownsRow _ H qam 4 sv' (y.steps ++ [x]).length _
  rw [List.length_append];exact qan hown (hS _ (by decide))
 ·rw [World.size_setCell]; exact Nat.le_trans h.hH hg.size
 ·exact Below.setCell ((Below.refl B w).grown hg (Nat.le_trans h.hB h.hH) (fun k hk => Nat.le_trans h.hB (qd4 h.steps k hk))) hBg _
theorem FLastR.varsRd {B H : Nat} {w : World} {init : List StageG} {y : StageG} {gb c vc : Nat} {va : Option Addr} {cs0 : List Value} {sv : Value} {scs : List Value} (h : FLastR B H w init y gb c cs0 sv (.slice va y.vars.length vc) scs) : Rd w va (strs y.vars) := (RdT.of_own h.vars).rd
theorem FLastR.alloc {B H : Nat} {w : World} {init : List StageG} {y : StageG} {gb c : Nat} {cs0 : List Value} {sv vv : Value} {scs : List Value} (h : FLastR B H w init y gb c cs0 sv vv scs) (o : Obj) : FLastR B H (w.alloc o) init y gb c cs0 sv vv scs := h.after ((Below.refl _ _).alloc (Nat.le_refl _) o)
theorem qi8 (B gw : Nat) (l : List PieceG) (x : UInt8) (p c : Nat) (ao : Option Addr) (w : World) (h : Wd B gw w l p ao c) (hl : l.length ≤ 1000000) (ht : ∀ q ∈ l, q.text.length ≤ 1000000) :
 Calls Tryz.prog 122 #[.pointer (some ⟨gw, 0, none⟩), .int .u8 x.toNat] w fun e w' => e = .returned (.tuple #[]) ∧ (∃ ao' c', Wd B gw w' (addP l x) p ao' c') ∧ Fr (fun b => b = gw ∨ B ≤ b) w w' := by
 obtain ⟨i0, hi0, hz0, hz1, hz2⟩ := info_parts (show (Tryz.prog.info? 186).map (fun i => (i.zero, i.size, i.bytes)) = some (some (.agg #[.string ByteArray.empty, .bool false, .int .i64 0]), 3, 32) by kernel_rfl);obtain ⟨c1, c2, c3, c4⟩ := h.blk2.facts;have hcv : ∀ w : World, (convert 113 9 (.slice (some ⟨w.heap.size, 0, none⟩) 1 1)).run Tryz.prog (w.alloc (.cells #[.int .u8 x.toNat] 5)).drew = .ok (.string (S [x])) (w.alloc (.cells #[.int .u8 x.toNat] 5)).drew := fun w =>
  run_convert_bytes_back (P := Tryz.prog) (w.alloc (.cells #[.int .u8 x.toNat] 5)).drew 113 9 5 ⟨w.heap.size, 0, none⟩ 1 [x] Tryz.underlying113 Tryz.underlying5 Tryz.underlying9 (fun j hj => by
   have : j = 0 := by simpa using hj
   subst this;exact cell_one_new w _ _ 0 _ rfl)
 have hgl : gw < w.heap.size := h.blk2.lt;have HH := q4z h;rcases List.eq_nil_or_concat l with rfl | ⟨init, q, rfl⟩
 ·have Y := q4z (qtm x)
  clear h ht;simp only [List.length_nil] at c1;go_enter Tryz.func122, Tryz.ntmps122
  go_wp2_with (at_builtin; refine wpList_append_own _ rfl _ _ 125 rfl B qa4 i0 (.agg #[.string ByteArray.empty, .bool false, .int .i64 0]) 3 32 Tryz.underlying125 hi0 hz0 hz1 hz2 rfl (by decide) _ _ _ rfl (HH.out.alloc _).own ⟨_, 0, none⟩ 1 1 [.string (S []), .bool false, .int .i64 0] rfl rfl (qi5 _ _ _ _ _ _ (by simp)) (by simp [Value.oneCell']) (by unfold maxLen; omega) (by omega) (by simp; have := HH.out.hB; omega) ?_; intro v' w2 hown2 hgr2 _; obtain ⟨ao', c', rfl⟩ := qad hown2; have PW := q4z ((HH.out.alloc _).push ⟨[], false, 0⟩ hown2 hgr2); obtain ⟨e1, e2, e3, e4⟩ := ((HH.out.alloc _).kept hgr2).facts; have HF := q4z ((((Fr.refl (fun b => b = gw ∨ B ≤ b) w).alloc _).grown hgr2 (fun k hk _ => .inr (qd4 HH.out.own k hk))).setCell (g := gw) (fun _ => .inl rfl) 0 (.slice ao' (0 + 1) c')); clear hown2 hgr2)
  obtain ⟨gp', rfl, hgp', hBg', f1, f2, f3⟩ := PW.out.last;obtain ⟨k1, k2, k3, k4⟩ := PW.out.blk2.facts;have hkz := PW.out.blk2.lt;simp only [List.length_append, List.length_cons, List.length_nil, Nat.zero_add, Nat.zero_mul] at f1 f2 f3 k1;clear e1 e2 e3 e4;generalize hW : w2.setCell ⟨gw, 0, none⟩ (.slice (some ⟨gp', 0, none⟩) (0 + 1) c') = wz at *;clear hW;go_region
  all_goals
   go_wp2;go_end0
   refine ⟨rfl, ?_, ?_⟩
   ·rw [Y.out]
    exact ⟨_, _, (((PW.out.text [x]).alloc _).drew)⟩
   ·exact (((HF.out.setCell (g := gp') (fun _ => .inr hBg') _ _).alloc _).drew)
 ·rw [List.concat_eq_append] at *
  obtain ⟨gp, rfl, hgp, hBg, d1, d2, d3⟩ := h.last;clear h;have hm1 : (init.length : Int) < (init.length : Int) + 1 := by omega
  have hm2 : (0 : Int) ≤ (init.length : Int) := by omega
  have hm3 : (init.length : Int) + 1 < (init.length : Int) + 1 + 1 := by omega
  have hlen : (init ++ [q]).length = init.length + 1 := by simp
  have hql : q.text.length ≤ 1000000 := ht q (by simp);rw [hlen] at c1 hl;clear hlen;have hq1 : q.text.length + 1 ≤ 9223372036854775807 := by omega
  clear ht hql;cases hv : q.var
  ·rw [hv] at d2
   have Y := q4z (qi7 init q x hv);have HV := q4z hv;clear hv;go_enter Tryz.func122, Tryz.ntmps122;go_wp2;go_region
   all_goals
    go_wp2;go_end0
    refine ⟨rfl, ?_, ?_⟩
    ·rw [Y.out]
     have := (((HH.out.text (q.text ++ [x])).alloc (.cells #[.int .u8 x.toNat] 5)).drew);rw [HV.out] at this;exact ⟨_, _, this⟩
    ·exact ((((Fr.refl (fun b => b = gw ∨ B ≤ b) w).setCell (g := gp) (fun _ => .inr hBg) _ _).alloc _).drew)
  ·rw [hv] at d2
   have Y := q4z (qi6 init q x hv);clear hv;have hlen : (init ++ [q]).length = init.length + 1 := by simp
   have HLen := q4z hlen;clear hlen;go_enter Tryz.func122, Tryz.ntmps122
   go_wp2_with (at_builtin; refine wpList_append_own _ rfl _ _ 125 rfl B qa4 i0 (.agg #[.string ByteArray.empty, .bool false, .int .i64 0]) 3 32 Tryz.underlying125 hi0 hz0 hz1 hz2 rfl (by decide) _ _ _ rfl ((HH.out.alloc _).ownN HLen.out) ⟨_, 0, none⟩ 1 1 [.string (S []), .bool false, .int .i64 0] rfl rfl (qi5 _ _ _ _ _ _ (by simp)) (by simp [Value.oneCell']) (by unfold maxLen; omega) (by omega) (by simp; have := HH.out.hB; omega) ?_; intro v' w2 hown2 hgr2 _; obtain ⟨ao', c', rfl⟩ := qad hown2; have PW := q4z ((HH.out.alloc _).pushN HLen.out ⟨[], false, 0⟩ hown2 hgr2); obtain ⟨e1, e2, e3, e4⟩ := ((HH.out.alloc _).keptN HLen.out hgr2).facts; have HF := q4z ((((Fr.refl (fun b => b = gw ∨ B ≤ b) w).alloc _).grown hgr2 (fun k hk _ => .inr (qd4 (HH.out.ownN HLen.out) k hk))).setCell (g := gw) (fun _ => .inl rfl) 0 (.slice ao' (init.length + 1 + 1) c')); clear hown2 hgr2)
   obtain ⟨gp', rfl, hgp', hBg', f1, f2, f3⟩ := PW.out.last;obtain ⟨k1, k2, k3, k4⟩ := PW.out.blk2.facts;have hkz := PW.out.blk2.lt;simp only [List.length_append, List.length_cons, List.length_nil, Nat.zero_add, Nat.zero_mul] at f1 f2 f3 k1;clear e1 e2 e3 e4;generalize hW : w2.setCell ⟨gw, 0, none⟩ (.slice (some ⟨gp', 0, none⟩) (init.length + 1 + 1) c') = wz at *;clear hW;go_region
   all_goals
    go_wp2;go_end0
    refine ⟨rfl, ?_, ?_⟩
    ·rw [Y.out]
     have := (((PW.out.text [x]).alloc (.cells #[.int .u8 x.toNat] 5)).drew);rw [HLen.out] at this;exact ⟨_, _, this⟩
    ·exact (((HF.out.setCell (g := gp') (fun _ => .inr hBg') _ _).alloc _).drew)
def qbe (s : List UInt8) (k : Nat) : Nat := if h : k < s.length then (if s[k] = 32 then qbe s (k + 1) else if qb4 s k = true then qbe s (k + 2) else k) else k
termination_by s.length - k
theorem qf7 {s : List UInt8} {k : Nat} (h : k < s.length) (c : s[k] = 32) : qbe s k = qbe s (k + 1) := by
 conv => lhs; rw [qbe, dif_pos h, if_pos c]
theorem qha {s : List UInt8} {k : Nat} (g : qb4 s k = true) : qbe s k = qbe s (k + 2) := by
 obtain ⟨h1, h2, h3⟩ := qhq g;have hk : k < s.length := by omega
 rw [List.getElem?_eq_getElem hk] at h2;have := Option.some.inj h2;conv => lhs; rw [qbe, dif_pos hk, if_neg (by rw [this]; decide), if_pos g]
theorem qc5 {s : List UInt8} {k : Nat} (c : s[k]? ≠ some 32) (g : qb4 s k = false) : qbe s k = k := by
 rw [qbe];split
 ·rename_i h
  rw [if_neg (by intro e; apply c; rw [List.getElem?_eq_getElem h, e]), if_neg (by simp [g])]
 ·rfl
def atOf (w : World) (g : Nat) : Nat := match w.cell? ⟨g, 1, none⟩ with | some (.int _ n) => n.toNat | _ => 0
theorem Lex.atOf {w : World} {g : Nat} {s : List UInt8} {k : Nat} (h : Lex w g s k) : atOf w g = k := by
 obtain ⟨_, c2, _, _⟩ := h.blk2.facts;unfold Go.Proofs.YtikdblkfjchjbaaGreatDoor.atOf;rw [c2];simp
theorem Lex.atSet {w : World} {g : Nat} {s : List UInt8} {k : Nat} (h : Lex w g s k) (m : Nat) {v : Int} (hv : v = (m : Int)) : Go.Proofs.YtikdblkfjchjbaaGreatDoor.atOf (w.setCell ⟨g, 1, none⟩ (.int .i64 v)) g = m := by
 subst hv; exact (h.set m).atOf
theorem qid (s : List UInt8) (g k : Nat) (w : World) (hs : s.length ≤ 2000000000) (hk : k ≤ s.length) (hx : Lex w g s k) :
 Calls Tryz.prog 77 #[.pointer (some ⟨g, 0, none⟩)] w fun e w' => e = .returned (.tuple #[]) ∧ Lex w' g s (qbe s k) ∧ Fr (fun b => b = g) w w' := by
 have HX := q4z hx;clear hx;go_enter Tryz.func77, Tryz.ntmps77;go_wp2;go_loopw [2] (fun _ wr => ∃ j : Nat, j ≤ s.length ∧ Hid (Lex wr g s j) ∧ Hid (qbe s k = qbe s j) ∧ Fr (fun b => b = g) w wr) (fun _ wr => s.length - atOf wr g)
 case atStart => exact ⟨k, hk, HX, rfl, Fr.refl _ _⟩
 case round =>
  obtain ⟨j, hj, HJ, HQ, hfr⟩ := hrel;clear HX;obtain ⟨c1, c2, c3, c4⟩ := HJ.out.blk2.facts;have hat := q4z HJ.out.atOf;have hgl := HJ.out.lt;have stB : ∀ h : j < s.length, qa7 s j = (s[j] == 10) := fun h => by simp [qa7, h]
  by_cases h : j < s.length
  ·have hj1 : (j : Int) < (s.length : Int) := by omega
   have hj0 : (0 : Int) ≤ (j : Int) := by omega
   by_cases h32 : s[j] = 32
   ·have HS := q4z (show qa7 s j = false by rw [stB h, h32]; rfl)
    have h32' : ((s[j].toNat : Int) == 32) = true := by rw [h32]; rfl
    have Y := q4z (show qbe s k = qbe s (j + 1) by rw [HQ.out]; exact qf7 h h32);clear HQ h32 stB;have HE := q4z (show ∀ n, Calls Tryz.prog 78 #[.pointer (some ⟨g, 0, none⟩)] (wr.drewN n) fun e w' => e = .returned (.bool false) ∧ ∃ m, w' = (wr.drewN n).drewN m from fun n => by rw [← HS.out]; exact qax s g j _ hs hj (HJ.out.drewN n));go_wp2;go_quiet (exact Calls.quiet_of (HE.out _));go_wp2;go_roundw
    case rel => exact ⟨j + 1, by omega, (HJ.out.drewN _).set (j + 1), Y, (hfr.drewN _).setCell (fun _ => rfl) _ _⟩
    case measure =>
     rw [hat.out, (HJ.out.drewN _).atSet (j + 1) (by omega)];omega
   ·have h32' : ((s[j].toNat : Int) == 32) = false := by
     rw [beq_eq_false_iff_ne]; intro e; exact h32 (qzt.2 e)
    cases hg : qb4 s j
    ·have HG := q4z hg
     have Y := q4z (show qbe s j = j from qc5 (by rw [List.getElem?_eq_getElem h]; intro e; exact h32 (Option.some.inj e)) hg);clear h32 hg;cases hst : qa7 s j
     all_goals
      have HS := q4z hst;clear hst stB
      first | (have HE := q4z (show ∀ n, Calls Tryz.prog 78 #[.pointer (some ⟨g, 0, none⟩)] (wr.drewN n) fun e w' => e = .returned (.bool false) ∧ ∃ m, w' = (wr.drewN n).drewN m from fun n => by rw [← HS.out]; exact qax s g j _ hs hj (HJ.out.drewN n)); go_wp2; go_quiet (exact Calls.quiet_of (HE.out _))) | (have HE := q4z (show ∀ n, Calls Tryz.prog 78 #[.pointer (some ⟨g, 0, none⟩)] (wr.drewN n) fun e w' => e = .returned (.bool true) ∧ ∃ m, w' = (wr.drewN n).drewN m from fun n => by rw [← HS.out]; exact qax s g j _ hs hj (HJ.out.drewN n)); go_wp2; go_quiet (exact Calls.quiet_of (HE.out _)))
      go_wp2_with (go_at_call 119; refine (qbl s g j _ hs hj (HJ.out.drewN _)).mono ?_; rintro e2 w2 ⟨rfl, m2, rfl⟩; rw [HG.out])
      first | go_end0 | refine bodyPost_ret (results_none rfl _ _ _) rfl ?_
      exact ⟨rfl, by rw [HQ.out, Y.out]; exact HJ.out.drewN _, hfr.drewN _⟩
    ·have HG := q4z hg
     obtain ⟨g1, g2, g3⟩ := qhq hg;have HS := q4z (show qa7 s j = false by
      rw [List.getElem?_eq_getElem h] at g2;rw [stB h, Option.some.inj g2]; rfl)
     have Y := q4z (show qbe s k = qbe s (j + 2) by rw [HQ.out]; exact qha hg);clear HQ h32 hg stB g2 g3;have HE := q4z (show ∀ n, Calls Tryz.prog 78 #[.pointer (some ⟨g, 0, none⟩)] (wr.drewN n) fun e w' => e = .returned (.bool false) ∧ ∃ m, w' = (wr.drewN n).drewN m from fun n => by rw [← HS.out]; exact qax s g j _ hs hj (HJ.out.drewN n));go_wp2;go_quiet (exact Calls.quiet_of (HE.out _));go_wp2_with (go_at_call 119; refine (qbl s g j _ hs hj (HJ.out.drewN _)).mono ?_; rintro e2 w2 ⟨rfl, m2, rfl⟩; rw [HG.out])
     go_roundw
     case rel => exact ⟨j + 2, by omega, (HJ.out.drewN _).set (j + 2), Y, (hfr.drewN _).setCell (fun _ => rfl) _ _⟩
     case measure =>
      rw [hat.out, (HJ.out.drewN _).atSet (j + 2) (by omega)];omega
  ·have hnone : s[j]? = none := List.getElem?_eq_none (by omega)
   have HS := q4z (show qa7 s j = true by simp [qa7, hnone]);have HG := q4z (show qb4 s j = false by simp [qb4, hnone]);have Y := q4z (show qbe s j = j from qc5 (by rw [hnone]; simp) HG.out);clear hnone stB;have HE := q4z (show ∀ n, Calls Tryz.prog 78 #[.pointer (some ⟨g, 0, none⟩)] (wr.drewN n) fun e w' => e = .returned (.bool true) ∧ ∃ m, w' = (wr.drewN n).drewN m from fun n => by rw [← HS.out]; exact qax s g j _ hs hj (HJ.out.drewN n));go_wp2;go_quiet (exact Calls.quiet_of (HE.out _));go_wp2_with (go_at_call 119; refine (qbl s g j _ hs hj (HJ.out.drewN _)).mono ?_; rintro e2 w2 ⟨rfl, m2, rfl⟩; rw [HG.out])
   first | go_end0 | refine bodyPost_ret (results_none rfl _ _ _) rfl ?_
   exact ⟨rfl, by rw [HQ.out, Y.out]; exact HJ.out.drewN _, hfr.drewN _⟩
def qf9 (p : PieceG) : List UInt8 := if p.var then [36, 123] ++ p.text ++ [125] else qb0 p.text
def qcx (l : List PieceG) : List UInt8 := l.flatMap qf9
theorem qhr (l : List PieceG) (q : PieceG) : qcx (l ++ [q]) = qcx l ++ qf9 q := by simp [qcx]
theorem qyo (l : List Atm) : qcx (qaw l []) = qls l := by
 induction hn : l.length generalizing l with
 | zero => rw [List.eq_nil_of_length_eq_zero hn]; rfl
 | succ n ihn =>
  rcases List.eq_nil_or_concat l with rfl | ⟨l, x, rfl⟩
  ·simp at hn
  rw [List.concat_eq_append] at hn ⊢;have ih := ihn l (by simpa using hn);rw [qbp];have e : qls (l ++ [x]) = qls l ++ qmn x := by simp [qls]
  rw [e, ← ih];cases x with
  | var n p => simp only [qqk]; rw [qhr]; rfl
  | ch c =>
   simp only [qqk];generalize qaw l [] = L;rcases List.eq_nil_or_concat L with rfl | ⟨init, q, rfl⟩
   ·simp [addP, qcx, qf9, qb0, qmn]
   ·rw [List.concat_eq_append]
    cases hv : q.var
    ·rw [qi7 init q c hv, qhr, qhr]
     simp [qf9, hv, qb0, qmn]
    ·rw [qi6 init q c hv, qhr]
     simp [qf9, qb0, qmn]
theorem qyp (w : WordG) : qcx w.pl = qls w.l := qyo w.l
def qim : List UInt8 := [46, 47, 95, 61, 58, 45]
theorem q37 (l : List UInt8) (c : UInt8) (h : c ∈ l) : ∃ i : Nat, Lib.indexByte l c = (i : Int) := by
 induction l with
 | nil => cases h
 | cons x r ih =>
  by_cases e : x = c
  ·exact ⟨0, by rw [Lib.indexByte, if_pos (by simpa using e)]; rfl⟩
  ·have hm : c ∈ r := by
    rcases List.mem_cons.1 h with h | h
    ·exact absurd h.symm e
    ·exact h
   obtain ⟨i, hi⟩ := ih hm;refine ⟨i + 1, ?_⟩;rw [Lib.indexByte, if_neg (by simpa using e), hi, if_neg (by simp)];omega
theorem q24 (l : List UInt8) (c : UInt8) (h : c ∉ l) : Lib.indexByte l c = -1 := by
 induction l with
 | nil => rfl
 | cons x r ih =>
  rw [List.mem_cons, not_or] at h;rw [Lib.indexByte, if_neg (by simpa using fun e => h.1 e.symm), ih h.2];rfl
theorem qul (c : UInt8) (h : c ∉ qim) (w : World) :
 Calls Tryz.prog 147 #[.string (S [46, 47, 95, 61, 58, 45]), .int .u8 c.toNat] w fun e w' => e = .returned (.int .i64 (-1)) ∧ w' = w :=
 (Tryz.strings_IndexByte (S [46, 47, 95, 61, 58, 45]) c.toNat w).mono fun e w' ⟨he, hw⟩ => ⟨by rw [he, qdh, ← q24 qim c h]; simp [qim], hw⟩
theorem quk (c : UInt8) (h : c ∈ qim) : ∃ i : Nat, ∀ w : World,
 Calls Tryz.prog 147 #[.string (S [46, 47, 95, 61, 58, 45]), .int .u8 c.toNat] w fun e w' => e = .returned (.int .i64 (i : Int)) ∧ w' = w := by
 obtain ⟨i, hi⟩ := q37 qim c h;exact ⟨i, fun w => (Tryz.strings_IndexByte (S [46, 47, 95, 61, 58, 45]) c.toNat w).mono fun e w' ⟨he, hw⟩ => ⟨by rw [he, qdh, ← hi]; simp [qim], hw⟩⟩
theorem qo9 (c : UInt8) (hn : ¬ ((97 ≤ (c.toNat : Int) ∧ (c.toNat : Int) ≤ 122) ∨ (65 ≤ (c.toNat : Int) ∧ (c.toNat : Int) ≤ 90) ∨ (48 ≤ (c.toNat : Int) ∧ (c.toNat : Int) ≤ 57))) : qin c = decide (c ∈ qim) := by
 rw [Bool.eq_iff_iff, qmz, decide_eq_true_eq];simp only [qim, List.mem_cons, List.mem_nil_iff, or_false, qzt];simp
 omega
theorem qk5 (c : UInt8) (w : World) :
 Calls Tryz.prog 129 #[.int .u8 c.toNat] w fun e w' => e = .returned (.bool (qin c)) ∧ w' = w := by
 have hi := qmz c;by_cases hr : (97 ≤ (c.toNat : Int) ∧ (c.toNat : Int) ≤ 122) ∨ (65 ≤ (c.toNat : Int) ∧ (c.toNat : Int) ≤ 90) ∨ (48 ≤ (c.toNat : Int) ∧ (c.toNat : Int) ≤ 57)
 ·have Y := q4z (show qin c = true from hi.2 (by omega))
  clear hi;rcases hr with ⟨h1, h2⟩ | ⟨h1, h2⟩ | ⟨h1, h2⟩
  all_goals
   go_enter Tryz.func129, Tryz.ntmps129;go_wp2
   all_goals first
    | (go_ret; exact ⟨qau Y.out.symm, rfl⟩)
    | (exfalso; try simp only [Bool.not_eq_true', Bool.not_eq_false', bne_iff_ne, bne_eq_false_iff_eq, beq_iff_eq, beq_eq_false_iff_ne, decide_eq_true_eq, decide_eq_false_iff_not, ne_eq] at *; omega)
 ·have hp := qo9 c hr
  by_cases hm : c ∈ qim
  ·have Y := q4z (show qin c = true by rw [hp]; simpa using hm)
   obtain ⟨i, hI⟩ := quk c hm;have HI := q4z hI;clear hi hp hm hI;go_enter Tryz.func129, Tryz.ntmps129;go_wp2_with (go_at_call 147; refine (HI.out _).mono ?_; rintro e2 w2 ⟨rfl, rfl⟩)
   all_goals first
    | (go_ret; exact ⟨qau Y.out.symm, rfl⟩)
    | (go_ret; exact ⟨qau (by rw [Y.out]; decide), rfl⟩)
    | (go_ret; exact ⟨qau (by rw [Y.out]; simp; omega), rfl⟩)
    | (exfalso; try simp only [Bool.not_eq_true', Bool.not_eq_false', bne_iff_ne, bne_eq_false_iff_eq, beq_iff_eq, beq_eq_false_iff_ne, decide_eq_true_eq, decide_eq_false_iff_not, ne_eq] at *; omega)
  ·have Y := q4z (show qin c = false by rw [hp]; simpa using hm)
   have HI := q4z (qul c hm);clear hi hp hm;go_enter Tryz.func129, Tryz.ntmps129;go_wp2_with (go_at_call 147; refine (HI.out _).mono ?_; rintro e2 w2 ⟨rfl, rfl⟩)
   all_goals first
    | (go_ret; exact ⟨qau Y.out.symm, rfl⟩)
    | (go_ret; exact ⟨qau (by rw [Y.out]; decide), rfl⟩)
    | (go_ret; exact ⟨qau (by rw [Y.out]; simp; omega), rfl⟩)
    | (exfalso; try simp only [Bool.not_eq_true', Bool.not_eq_false', bne_iff_ne, bne_eq_false_iff_eq, beq_iff_eq, beq_eq_false_iff_ne, decide_eq_true_eq, decide_eq_false_iff_not, ne_eq] at *; omega)
theorem qq5 {s : List UInt8} {k : Nat} (h : k < s.length) : qb0 (s.take (k + 1)) = qb0 (s.take k) ++ qh0 s[k] := qd7 qh0 s k h
theorem qmv (s : List UInt8) (k : Nat) : (qb0 (s.take k)).length ≤ s.length * 2 := qct qh0 s k 2 (fun x _ => (qhh x).2)
theorem qgi (s : List UInt8) (w : World) (hs : s.length ≤ 100000) :
 Calls Tryz.prog 86 #[.string (S s)] w fun e w' => e = .returned (.string (S (qet (qb0 s)))) ∧ Below w.heap.size w w' := by
 by_cases he : s = []
 ·subst he
  go_enter Tryz.func86, Tryz.ntmps86;go_wp2;go_ret;exact ⟨rfl, Below.refl _ _⟩
 ·have Z := q4z (show qet (qb0 s) = qb0 s by
   unfold qet;rw [if_neg];cases s with
   | nil => exact absurd rfl he
   | cons x r =>
    intro e;have := (qhh x).1;have e2 := congrArg List.length e;simp only [qb0, List.flatMap_cons, List.length_append, List.length_nil] at e2;omega)
  have hne : (s == []) = false := by simpa using he
  have B0 := q4z (Bld.new w.heap.size w (Nat.le_refl _));have hbw : Below w.heap.size w (w.alloc (.cells #[.pointer none, .slice none 0 0] tBld)) := (Below.refl _ _).alloc (Nat.le_refl _) _;have hsz : w.heap.size + 1 ≤ (w.alloc (.cells #[.pointer none, .slice none 0 0] tBld)).heap.size := by simp
  clear he;go_enter Tryz.func86, Tryz.ntmps86;go_wp2;generalize hW : w.alloc (.cells #[.pointer none, .slice none 0 0] tBld) = w1 at *;clear hW;rw [show (ByteArray.mk #[]) = S [] from rfl];go_loopw [9] (fun x wr => ∃ k : Nat, k ≤ s.length ∧ x = .int .i64 k ∧ Hid (Bld w.heap.size w.heap.size (qb0 (s.take k)) wr) ∧ Below w.heap.size w wr) (fun x _ => s.length - (intOf x).toNat)
  case atStart => exact ⟨0, by omega, by go_num, B0, hbw⟩
  case round =>
   clear B0;obtain ⟨k, hk, rfl, BI, hbel⟩ := hrel;have HL := qmv s k;by_cases hlt : k < s.length
   ·have HT := q4z (qq5 hlt)
    have hkl : (k : Int) < (s.length : Int) := by omega
    cases hp : qin s[k]
    ·have HP := q4z (qk5 s[k])
     have HT2 := q4z (show qb0 (s.take (k + 1)) = qb0 (s.take k) ++ [92] ++ [s[k]] by rw [HT.out]; unfold qh0; rw [hp]; simp);have HPc := q4z hp;clear hp HT;go_wp2_with fail;refine (HP.out _).mono ?_;rintro e2 w2 ⟨rfl, rfl⟩;rw [HPc.out];go_wp2_with fail;refine (qcz (c := 92) (v := 92) rfl BI.out (by omega) hbel.size).mono ?_;rintro e3 w3 ⟨rfl, h3, hb3, _⟩;have B3 := q4z h3;have HB3 := q4z (hbel.trans hb3);clear h3 hb3;go_wp2_with fail;refine (qcz (c := s[k]) rfl B3.out (by rw [List.length_append]; simp; omega) HB3.out.size).mono ?_;rintro e4 w4 ⟨rfl, h4, hb4, _⟩;have B4 := q4z h4;have HB4 := q4z (HB3.out.trans hb4);clear h4 hb4;go_wp2;go_roundw
     case rel => exact ⟨k + 1, by omega, by go_num, by rw [HT2.out]; exact B4, HB4.out⟩
     case measure => simp [intOf]; omega
    ·have HP := q4z (qk5 s[k])
     have HT2 := q4z (show qb0 (s.take (k + 1)) = qb0 (s.take k) ++ [s[k]] by rw [HT.out]; unfold qh0; rw [hp]; simp);have HPc := q4z hp;clear hp HT;go_wp2_with fail;refine (HP.out _).mono ?_;rintro e2 w2 ⟨rfl, rfl⟩;rw [HPc.out];go_wp2_with fail;refine (qcz (c := s[k]) rfl BI.out (by omega) hbel.size).mono ?_;rintro e4 w4 ⟨rfl, h4, hb4, _⟩;have B4 := q4z h4;have HB4 := q4z (hbel.trans hb4);clear h4 hb4;go_wp2;go_roundw
     case rel => exact ⟨k + 1, by omega, by go_num, by rw [HT2.out]; exact B4, HB4.out⟩
     case measure => simp [intOf]; omega
   ·have hke : k = s.length := by omega
    have HQ := q4z (show qb0 (s.take k) = qb0 s by rw [hke, List.take_length]);clear hke;go_wp2_with fail;refine (qf6 BI.out hbel.size).mono ?_;rintro e5 w5 ⟨rfl, hb5⟩;rw [HQ.out];go_wp2;go_ret;exact ⟨qcv Z.out.symm, hbel.trans hb5⟩
theorem FStagesR.get {B : Nat} {w : World} {st : List StageG} {ao : Option Addr} {c : Nat} (h : FStagesR B w st ao c) {k : Nat} (hk : k < st.length) :
 ∃ b o sa sc va vc, ao = some ⟨b, o, none⟩ ∧ b < w.heap.size ∧ w.cell? ⟨b, o + k * 4, none⟩ = some (.string (S st[k].name)) ∧ w.cell? ⟨b, o + k * 4 + 1, none⟩ = some (.int .i64 st[k].base) ∧ w.cell? ⟨b, o + k * 4 + 2, none⟩ = some (.slice sa st[k].steps.length sc) ∧ w.cell? ⟨b, o + k * 4 + 3, none⟩ = some (.slice va st[k].vars.length vc) ∧ (∃ scs, w.ownsRow 0 qam 4 (.slice sa st[k].steps.length sc) st[k].steps.length scs ∧ FStepCells w st[k].steps scs) ∧ w.ownsRow 0 qbh 1 (.slice va st[k].vars.length vc) st[k].vars.length (strs st[k].vars) := by
 obtain ⟨cs, h1, h2⟩ := h.all;have h1 := RdT.of_own h1;obtain ⟨sv, vv, g1, g2, g3, g4, g5⟩ := h2.get k hk;obtain ⟨b, o, rfl, hb, hc⟩ := h1.rd.at (k * 4) (by rw [h2.len]; omega);obtain ⟨scs, s1, s2⟩ := g5.steps;obtain ⟨sa, sc, rfl⟩ := qad s1;obtain ⟨va, vc, rfl⟩ := qad g5.vars;exact ⟨b, o, sa, sc, va, vc, rfl, hb, hc _ _ g1, hc _ _ g2, hc _ _ g3, hc _ _ g4, ⟨scs, qaq s1 (Nat.zero_le _), s2⟩, qaq g5.vars (Nat.zero_le _)⟩
def layL (xs : List Value) : Nat → List Value → List Value
 | _, [] => xs
 | o, v :: r => layL (xs.set o v) (o + 1) r
theorem q0p (vs : List Value) : ∀ (xs : List Value) (o : Nat) (k : Nat), o + vs.length ≤ xs.length → (layL xs o vs)[k]? = if o ≤ k ∧ k < o + vs.length then vs[k - o]? else xs[k]? := by
 induction vs with
 | nil => intro xs o k h; simp only [layL, List.length_nil]; rw [if_neg (by omega)]
 | cons v r ih =>
  intro xs o k h;simp only [List.length_cons] at h ⊢;rw [layL, ih _ _ _ (by rw [List.length_set]; omega)];by_cases h1 : o + 1 ≤ k ∧ k < o + 1 + r.length
  ·rw [if_pos h1, if_pos (by omega), show k - o = (k - (o + 1)) + 1 by omega, List.getElem?_cons_succ]
  ·rw [if_neg h1, List.getElem?_set]
   by_cases h2 : o = k
   ·subst h2
    rw [if_pos rfl, if_pos (by omega), if_pos (by omega), Nat.sub_self]; rfl
   ·rw [if_neg h2, if_neg (by omega)]
theorem q0q (xs vs : List Value) (h : vs.length = xs.length) : layL xs 0 vs = vs := by
 apply List.ext_getElem?;intro k;rw [q0p vs xs 0 k (by omega)];by_cases hk : k < vs.length
 ·rw [if_pos (by omega)]; simp
 ·rw [if_neg (by omega), List.getElem?_eq_none (by omega), List.getElem?_eq_none (by omega)]
theorem qj8 {base : Nat} {e : TypeId} {n c g : Nat} (vs : List Value) : ∀ (o : Nat) (xs : List Value) (w : World), w.ownsRow base e 1 (.slice (some ⟨g, 0, none⟩) n c) n xs → o + vs.length ≤ n → (w.setCells g o vs).ownsRow base e 1 (.slice (some ⟨g, 0, none⟩) n c) n (layL xs o vs) := by
 induction vs with
 | nil => intro o xs w h _; exact h
 | cons v r ih =>
  intro o xs w h hl;simp only [List.length_cons] at hl;exact ih (o + 1) _ _ (qdo h o v (by omega)) (by omega)
theorem qhb {B g : Nat} (hg : B ≤ g) {a : World} : ∀ (vs : List Value) (o : Nat) (w : World), Below B a w → Below B a (w.setCells g o vs)
 | [], _, _, h => h
 | v :: r, o, w, h => qhb hg r (o + 1) _ (Below.setCell h hg v)
theorem q0u (l : List Nat) (j : Nat) (h : j < l.length) : (l.map (fun (i : Nat) => (i : Int))).getD j 0 = (l[j] : Int) := by simp [h]
theorem qz4 {w : World} {base : Nat} {e : TypeId} {size : Nat} {A : Option Addr} {n c : Nat} {xs : List Value} (h : w.ownsRow base e size (.slice A n c) n xs) (hn : 0 < n) : ∃ g, A = some ⟨g, 0, none⟩ ∧ n ≤ c ∧ c ≤ maxLen := by
 rcases h.2 with ⟨_, e2⟩ | ⟨g, cap, cur, e, hg, hh, h1, h2, r⟩
 ·omega
 ·simp only [Value.slice.injEq] at e
  obtain ⟨rfl, -, rfl⟩ := e;exact ⟨g, rfl, h1, h2⟩
theorem qtj {B : Nat} {w w' : World} (h : Below B w w') (n : Nat) : Below B w (w'.drewN n) := ⟨h.os, h.tape, h.output, h.size, h.block⟩
theorem qud (l : List Nat) (oo : Option Addr) (oc B : Nat) (w : World) (hl : l.length ≤ 1000) (ho : w.ownsRow B 3 1 (.slice oo l.length oc) l.length (ints l)) :
 Calls Tryz.prog 90 #[.slice oo l.length oc] w fun e w' => e = .returned (.tuple #[]) ∧ w'.ownsRow B 3 1 (.slice oo l.length oc) l.length (ints l.reverse) ∧ Below B w w' := by
 rcases Nat.eq_zero_or_pos l.length with h0 | h0
 ·obtain rfl := List.eq_nil_of_length_eq_zero h0
  refine (Tryz.slices_Reverse_int_empty oo oc w).mono ?_;rintro e w' ⟨rfl, rfl⟩;exact ⟨rfl, ho, Below.refl _ _⟩
 ·obtain ⟨g, rfl, h1, h2⟩ := qz4 ho h0
  have hg := qd4 ho;have hc := ho.cells (g := g) rfl;have ha : ∀ j, (⟨g, 0, none⟩ : Addr).add j = ⟨g, j, none⟩ := fun j => by unfold Addr.add; split <;> simp_all
  refine (Tryz.slices_Reverse_int_cells g 0 l.length oc (l.map (fun (i : Nat) => (i : Int))) w (by simp) (by omega) ?_ ?_).mono ?_
  ·intro j hj
   rw [List.length_map] at hj;have := hc j (.int .i64 l[j]) (by simp [ints, hj]);rw [ha] at this;rw [q0u l j hj, Nat.zero_add]; exact this
  ·intro j hj
   rw [Nat.zero_add];have := ho.frozenAt j;exact this
  ·rintro e w' ⟨rfl, q, rfl⟩
   have e1 : (((l.map (fun (i : Nat) => (i : Int))).take l.length).reverse.map (Value.int .i64)) = ints l.reverse := by
    rw [List.take_of_length_le (by simp), ← List.map_reverse, List.map_map]; rfl
   rw [e1];have e2 : (ints l.reverse).length = l.length := by simp [ints]
   refine ⟨rfl, ?_, qhb (hg g rfl) _ _ _ (qtj (Below.refl _ _) q)⟩;have h3 := qj8 (ints l.reverse) 0 (ints l) (w.drewN q) (qac ho (qtj (Below.refl _ _) q)) (by omega);rwa [q0q _ _ (by rw [e2]; simp [ints])] at h3
theorem qxv (st : List StageG) (m gp c k0 B : Nat) (ao : Option Addr) (w : World) (hm : st.length = m + 1) (hp : w.heap[gp]? = some (Obj.cells #[.slice ao (m + 1) c, .int .i64 k0] 105 (0, 0))) (hst : FStagesR B w st ao c) (hok : FileOk st) :
 Calls Tryz.prog 55 #[.pointer (some ⟨gp, 0, none⟩)] w fun e w' => (∃ ao' c', e = .returned (.slice ao' (qjj st).length c') ∧ w'.ownsRow w.heap.size 3 1 (.slice ao' (qjj st).length c') (qjj st).length (ints (qjj st))) ∧ Below w.heap.size w w' := by
 obtain ⟨i0, hi0, hz0, hz1, hz2⟩ := info_parts (show (Tryz.prog.info? 4).map (fun i => (i.zero, i.size, i.bytes)) = some (some (.bool false), 1, 1) by kernel_rfl);obtain ⟨i1, hi1, hz3, hz4, hz5⟩ := info_parts (show (Tryz.prog.info? 3).map (fun i => (i.zero, i.size, i.bytes)) = some (some (.int .i64 0), 1, 8) by kernel_rfl);have HST := q4z hst;have HM := q4z hm;have HOK := q4z hok;have HP := q4z hp;have hm5 : m ≤ 4 := by have := hok.h5; omega
 have hne : st ≠ [] := hok.ne;have M0 := q4z (show Marks st ((List.replicate (m + 1) false).set m true) from ⟨by simp [hm], by rw [hm]; simp, fun i hi => by
  by_cases e : m = i
  ·subst e
   have := Reach.last hne;rwa [hm, Nat.add_sub_cancel] at this
  ·rw [List.getElem?_set_ne e, List.getElem?_replicate] at hi
   split at hi <;> cases hi⟩)
 obtain ⟨c1, c2, c3, c4⟩ := (show Blk2 w gp (.slice ao (m + 1) c) (.int .i64 k0) from ⟨_, hp⟩).facts;clear hst hm hok hne hp;have hm1 : (m : Int) < (m : Int) + 1 := by omega
 have hm2 : (0 : Int) ≤ (m : Int) := by omega
 go_enter Tryz.func55, Tryz.ntmps55;go_wp2_with (at_make; refine wpList_make_full _ rfl _ _ 202 rfl w.heap.size 4 i0 (.bool false) 1 Tryz.underlying202 hi0 hz0 hz1 .i64 .i64 _ _ (m + 1) rfl rfl (by simp) (by simp) (by rw [hz2]; omega) (by unfold maxLen; omega) (Nat.le_refl _) ?_; intro w1 hown1 hgr1; have HO1 := q4z hown1; have HG1 := q4z hgr1; have hs1 := hgr1.size; have fz := qkd (b := List.replicate (m + 1) false) (k := m) (v := false) (by simpa [qqg, toList_madeCells_one, Value.cells] using hown1) (by simp); obtain ⟨fz1, fz2⟩ := fz; clear hown1 hgr1)
 have NI := q4z (show NInv w w.heap.size m st (w1.setCell ⟨w.heap.size, m, none⟩ (.bool true)) ((List.replicate (m + 1) false).set m true) from
  ⟨by rw [← qqf]; exact qdo (by simpa [qqg, toList_madeCells_one, Value.cells] using HO1.out) m (.bool true) (by omega), M0.out, Below.setCell ((Below.refl _ _).grown HG1.out (Nat.le_refl _) (fun k hk => by cases hk)) (Nat.le_refl _) _, Nat.le_refl _⟩)
 clear hs1 fz1 fz2 HO1 HG1 M0;generalize hW : w1.setCell ⟨w.heap.size, m, none⟩ (.bool true) = w2 at *;clear hW;generalize hB0 : (List.replicate (m + 1) false).set m true = b00 at *;clear hB0;obtain ⟨gn, egn⟩ : ∃ g, g = w.heap.size := ⟨_, rfl⟩;rw [← egn];replace NI := q4z (show NInv w gn m st w2 b00 by rw [egn]; exact NI.out);clear egn c1 c2 c3 c4;go_loopw [2, 4] (fun v x wr => ∃ (b : List Bool) (kk : Nat) (oo : Option Addr) (oc : Nat), x = .int .i64 ((kk : Int) - 1) ∧ v = .slice oo (qcp b (m + 1) kk).length oc ∧ kk ≤ m + 1 ∧ Hid (ClosedFrom st b kk) ∧ Hid (NInv w gn m st wr b) ∧
  Hid (wr.ownsRow (gn + 1) 3 1 (.slice oo (qcp b (m + 1) kk).length oc) (qcp b (m + 1) kk).length (ints (qcp b (m + 1) kk))) ∧ gn + 1 ≤ wr.heap.size) (fun _ x _ => (intOf x + 1).toNat)
 case atStart => exact ⟨b00, m + 1, none, 0, q16 (by omega), by rw [qp4]; rfl, by omega, by rw [← HM.out]; exact ClosedFrom.top st b00, NI, by rw [qp4]; exact World.ownsRow_nil _ _ _ _, qxo NI.out.own⟩
 case round =>
  clear NI;obtain ⟨b, kk, oo, oc, hx, rfl, hk, HC, NI, HO, hgs⟩ := hrel;cases kk with
  | zero =>
   subst hx;have HD := q4z (show (qcp b (m + 1) 0).reverse = qjj st by rw [← HM.out]; exact qyv NI.out.marks HC.out);have hdl := qp5 b (m + 1) 0;go_wp2_with (go_at_call 90; refine (qud (qcp b (m + 1) 0) oo oc (gn + 1) _ (by omega) HO.out).mono ?_; rintro e3 w3 ⟨rfl, ho3, hb3⟩)
   go_ret;rw [HD.out] at ho3;have hl2 : (qcp b (m + 1) 0).length = (qjj st).length := by rw [← HD.out, List.length_reverse]
   rw [hl2] at ho3 ⊢;exact ⟨⟨oo, oc, rfl, qaq ho3 (Nat.le_trans NI.out.gge (Nat.le_succ _))⟩, NI.out.bel.trans (hb3.mono (Nat.le_trans NI.out.gge (Nat.le_succ _)))⟩
  | succ i =>
   have e1 : (((i + 1 : Nat) : Int) - 1) = (i : Int) := by omega
   rw [e1] at hx;subst hx;clear e1;have hil : i < st.length := by have := HM.out; omega
   have hi9 : (i : Int) < (m : Int) + 1 := by omega
   have hi0' : (0 : Int) ≤ (i : Int) := by omega
   have hdl := qp5 b (m + 1) (i + 1);obtain ⟨v, hv⟩ : ∃ v, b[i]? = some v := ⟨b[i]'(by have := NI.out.marks.len; have := HM.out; omega), List.getElem?_eq_getElem _⟩;obtain ⟨n1, n2⟩ := qkd NI.out.own hv;cases v with
   | false =>
    have HDs := q4z (show qcp b (m + 1) i = qcp b (m + 1) (i + 1) by rw [qnf _ _ _ (by omega), if_neg (by rw [hv]; decide)]);have HC2 := q4z (HC.out.pass (by rw [hv]; decide));clear hv HC;go_wp2;go_roundw
    case rel => exact ⟨b, i, oo, oc, by go_num, by rw [HDs.out], by omega, HC2, NI, by rw [HDs.out]; exact HO, hgs⟩
    case measure => simp [intOf]
   | true =>
    have hp3 := q4z ((NI.out.bel.block gp (q41 HP.out).1).trans HP.out);obtain ⟨q1, q2, q3, q4⟩ := (show Blk2 wr gp (.slice ao (m + 1) c) (.int .i64 k0) from ⟨_, hp3.out⟩).facts;obtain ⟨sb, so, sa, sc, va, vc, rfl, hsb, m1, m2, m3, m4, ⟨scs, hss, hsc⟩, _⟩ := HST.out.get hil;replace m1 := (NI.out.bel.cell (p := ⟨sb, so + i * 4, none⟩) hsb).trans m1;replace m2 := (NI.out.bel.cell (p := ⟨sb, so + i * 4 + 1, none⟩) hsb).trans m2;replace m3 := (NI.out.bel.cell (p := ⟨sb, so + i * 4 + 2, none⟩) hsb).trans m3;replace m4 := (NI.out.bel.cell (p := ⟨sb, so + i * 4 + 3, none⟩) hsb).trans m4;have HSR := q4z (RdT.of_own hss).rd;have HSC := q4z hsc
    have hsl : st[i].steps.length ≤ 24 := (HOK.out.bd _ (List.getElem_mem hil)).2;have HWF := q4z (HOK.out.wf i hil);have HV := q4z hv;have HDs := q4z (show qcp b (m + 1) i = qcp b (m + 1) (i + 1) ++ [i] by rw [qnf _ _ _ (by omega), if_pos hv]);have hgw : gn < wr.heap.size := hgs;have NIc := q4z (NI.out.after ((Below.refl _ _).alloc (Nat.le_refl _) (.cells #[.string (S st[i].name), .int .i64 st[i].base, .slice sa st[i].steps.length sc, .slice va st[i].vars.length vc] qas)));have HOc := q4z (HO.out.alloc (.cells #[.string (S st[i].name), .int .i64 st[i].base, .slice sa st[i].steps.length sc, .slice va st[i].vars.length vc] qas));clear hss hsc hv
    have hways : st[i].base < 0 ∨ ∃ k : Nat, st[i].base = (k : Int) := by
     rcases Int.lt_or_le st[i].base 0 with h | h
     ·exact .inl h
     ·exact .inr ⟨st[i].base.toNat, by omega⟩
    have hne5 : gn ≠ wr.heap.size := by omega
    have hne6 : wr.heap.size ≠ gn := by omega
    obtain ⟨b1, hb1e⟩ : ∃ b1, b1 = b := ⟨_, rfl⟩;obtain ⟨wa, hwa⟩ : ∃ wa, wa = wr.alloc (.cells #[.string (S st[i].name), .int .i64 st[i].base, .slice sa st[i].steps.length sc, .slice va st[i].vars.length vc] qas) := ⟨_, rfl⟩;rcases hways with hb0 | ⟨bk, hbk⟩
    all_goals first
     | (have MD := q4z (Mid.start (b0 := b) hil hb0)
        have hb1 : ¬ (0 ≤ st[i].base) := by omega
        have hb2 : decide (0 ≤ st[i].base) = false := by rw [decide_eq_false_iff_not]; exact hb1
        clear hb0;go_wp2;replace MD := q4z (show Mid st b b1 i 0 hil by rw [hb1e]; exact MD.out);replace NIc := q4z (show NInv w gn m st wa b1 by rw [hwa, hb1e]; exact NIc.out);replace HOc := q4z (show wa.ownsRow (gn + 1) 3 1 (.slice oo (qcp b (m + 1) (i + 1)).length oc) (qcp b (m + 1) (i + 1)).length (ints (qcp b (m + 1) (i + 1))) by rw [hwa]; exact HOc.out);rw [← hwa];clear hwa hb1e hb1 hb2)
     | (have hbl : bk < i := by have := HWF.out.1; omega
        have MD := q4z (Mid.start1 (b0 := b) hil bk hbl NI.out.marks.len hbk);have MS := q4z (NI.out.marks.set hil HV.out hbl (by unfold qjw; rw [Bool.or_eq_true]; right; simpa using hbk));obtain ⟨vb, hvb⟩ : ∃ v, b[bk]? = some v := ⟨b[bk]'(by have := NI.out.marks.len; have := HM.out; omega), List.getElem?_eq_getElem _⟩;obtain ⟨n3, n4⟩ := qkd NI.out.own hvb;have hb4 : (bk : Int) < (m : Int) + 1 := by omega
        clear NIc HOc hwa;rw [hbk] at m2;have hbo : ∀ {W : World} (o : Obj), Below W.heap.size W (W.alloc o) := fun o => Below.alloc (Below.refl _ _) (Nat.le_refl _) o
        have NIc := q4z ((NI.out.mark (k := bk) (by omega) MS.out).after (hbo (.cells #[.string (S st[i].name), .int .i64 (bk : Int), .slice sa st[i].steps.length sc, .slice va st[i].vars.length vc] qas)));have HOc := q4z ((ownsRow_setCell_below HO.out (a := ⟨gn, bk, none⟩) (Nat.lt_succ_self gn) (.bool true)).alloc (.cells #[.string (S st[i].name), .int .i64 (bk : Int), .slice sa st[i].steps.length sc, .slice va st[i].vars.length vc] qas));clear hvb hb1e b1;generalize hgb : b.set bk true = b1 at *;clear hgb MS wa hbo;go_wp2
        generalize hwb : (wr.setCell ⟨gn, bk, none⟩ (.bool true)).alloc (.cells #[.string (S st[i].name), .int .i64 (bk : Int), .slice sa st[i].steps.length sc, .slice va st[i].vars.length vc] qas) = wa at *;clear hwb)
    all_goals
     clear m1 m2 m3 m4 q1 q2 q3 q4 n1 n2 hgw hne5 hne6 NI HO hp3;go_loopw [48] (fun x wx => ∃ (q : Nat) (bq : List Bool), x = .int .i64 q ∧ q ≤ st[i].steps.length ∧ Hid (Mid st b bq i q hil) ∧ Hid (NInv w gn m st wx bq) ∧
      Hid (wx.ownsRow (gn + 1) 3 1 (.slice oo (qcp b (m + 1) (i + 1)).length oc) (qcp b (m + 1) (i + 1)).length (ints (qcp b (m + 1) (i + 1))))) (fun x _ => st[i].steps.length - (intOf x).toNat)
     (case atStart => exact ⟨0, b1, rfl, by omega, MD, NIc, HOc⟩)
     (case round =>
       clear MD NIc HOc;obtain ⟨q, bq, rfl, hq, MD, NIc, HOc⟩ := hrel;by_cases hlt : q < st[i].steps.length
       ·obtain ⟨b2, o2, rfl, hb2, hc2⟩ := HSR.out.at (q * 4) (by rw [HSC.out.len]; omega)
        obtain ⟨A', c', s1, s2, s3, s4, _⟩ := HSC.out.get q hlt;have z0 := (NIc.out.bel.cell (p := ⟨b2, o2 + q * 4, none⟩) hb2).trans (hc2 _ _ s1);have z1 := (NIc.out.bel.cell (p := ⟨b2, o2 + q * 4 + 1, none⟩) hb2).trans (hc2 _ _ s2);have z2 := (NIc.out.bel.cell (p := ⟨b2, o2 + q * 4 + 2, none⟩) hb2).trans (hc2 _ _ s3);have z3 := (NIc.out.bel.cell (p := ⟨b2, o2 + q * 4 + 3, none⟩) hb2).trans (hc2 _ _ s4);have hgw : gn < wr.heap.size := qxo NIc.out.own;have hne5 : gn ≠ wr.heap.size := by omega
        have hne6 : wr.heap.size ≠ gn := by omega
        clear s1 s2 s3 s4 hc2 hb2;have hway : st[i].steps[q].stage < 0 ∨ ∃ k : Nat, st[i].steps[q].stage = (k : Int) := by
         rcases Int.lt_or_le st[i].steps[q].stage 0 with h | h
         ·exact .inl h
         ·exact .inr ⟨st[i].steps[q].stage.toNat, by omega⟩
        rcases hway with hb0 | ⟨k, hk0⟩
        ·have MD2 := q4z (MD.out.skip (fun _ => hb0))
         have hb1 : ¬ (0 ≤ st[i].steps[q].stage) := by omega
         have hbo : ∀ {W : World} (o : Obj), Below W.heap.size W (W.alloc o) := fun o => Below.alloc (Below.refl _ _) (Nat.le_refl _) o
         have NI2 := fun o => q4z (NIc.out.after (hbo o))
         have HO2 := fun o => q4z (HOc.out.alloc o)
         clear hb0 hbo;go_wp2;go_roundw;(case rel => exact ⟨q + 1, bq, by go_num, by omega, MD2, NI2 _, HO2 _⟩)
         (case measure => simp [intOf]; omega)
        ·have hkl : k < i := by have := HWF.out.2 _ (List.getElem_mem hlt); omega
         have MD2 := q4z (MD.out.set k hkl NIc.out.marks.len (fun _ => hk0));have MS := q4z (NIc.out.marks.set hil (by rw [MD.out.above i (Nat.le_refl _)]; exact HV.out) hkl (by unfold qjw; rw [Bool.or_eq_true]; left; rw [List.any_eq_true]; exact ⟨_, List.getElem_mem hlt, by simpa using hk0⟩));obtain ⟨vb, hvb⟩ : ∃ v, bq[k]? = some v := ⟨bq[k]'(by have := NIc.out.marks.len; have := HM.out; omega), List.getElem?_eq_getElem _⟩;obtain ⟨n3, n4⟩ := qkd NIc.out.own hvb;have hb4 : (k : Int) < (m : Int) + 1 := by omega
         rw [hk0] at z2;have hbo : ∀ {W : World} (o : Obj), Below W.heap.size W (W.alloc o) := fun o => Below.alloc (Below.refl _ _) (Nat.le_refl _) o
         have NI2 := fun o => q4z ((NIc.out.mark (k := k) (by omega) MS.out).after (hbo o))
         have HO2 := fun o => q4z ((ownsRow_setCell_below HOc.out (a := ⟨gn, k, none⟩) (Nat.lt_succ_self gn) (.bool true)).alloc o)
         clear hvb hbo hk0;go_wp2;go_roundw;(case rel => exact ⟨q + 1, _, by go_num, by omega, MD2, NI2 _, HO2 _⟩)
         (case measure => simp [intOf]; omega)
       ·obtain rfl : q = st[i].steps.length := by omega
        have HC2 := q4z (MD.out.closed HC.out);have HDs2 := q4z (show qcp bq (m + 1) i = qcp b (m + 1) (i + 1) ++ [i] by rw [qvs (b := b) (fun j hj => MD.out.above j hj)]; exact HDs.out);have hgs := qxo NIc.out.own
        go_wp2_with (at_builtin; refine wpList_append_own _ rfl _ _ 141 rfl (gn + 1) 3 i1 (.int .i64 0) 1 8 Tryz.underlying141 hi1 hz3 hz4 hz5 rfl (by decide) _ _ _ rfl (HOc.out.alloc _) ⟨_, 0, none⟩ 1 1 [.int .i64 i] rfl rfl (cell_one_new _ _ _) (by simp [Value.oneCell']) (by unfold maxLen; omega) (by omega) (by simp; omega) ?_; intro v' w5 hown5 hgr5 _; obtain ⟨ao', c', rfl⟩ := qad hown5; have NI5 := q4z ((NIc.out.after ((Below.refl _ _).alloc (Nat.le_refl _) _)).grown hgr5 (qm1 HOc.out (Nat.lt_succ_self gn)) (Nat.le_trans hgs (by simp)) (qd4 HOc.out)); have HO5 := q4z hown5; have hs5 := hgr5.size; simp only [World.size_alloc] at hs5; clear hown5 hgr5)
        go_roundw;(case rel => exact ⟨bq, i, ao', c', by go_num, by rw [HDs2.out]; simp, by omega, HC2, NI5, by rw [HDs2.out]; unfold ints; rw [List.map_append, List.length_append]; exact HO5, by omega⟩)
        (case measure => simp [intOf]))
end Go.Proofs.YtikdblkfjchjbaaGreatDoor
