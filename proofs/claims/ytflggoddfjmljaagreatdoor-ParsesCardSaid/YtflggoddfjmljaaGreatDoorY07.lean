/-
  The program's words: pieces, in plain words and in memory.
  The program's own words: a word without variables.
  Plain words: pieces and atoms give the same plain text.
  The program's words in rows of memory.
  The program's stages in memory: steps, variables, stages, row by row.
  The program's last stage in memory: a variable more, a step more, a stage more.
  The program's own words: a byte more.
  The program's own lexer: blanks.
  Plain words: the one form of a word, by the program's pieces. No program in sight.
  The program's own one form: a byte, a text, a word: the walks.
-/
import Derived.BigRegion
import Derived.Test.YtflggoddfjmljaaGreatDoorY03
import Derived.Test.YtflggoddfjmljaaGreatDoorY05
import Derived.Test.YtflggoddfjmljaaGreatDoorY06
set_option linter.unusedVariables false
set_option linter.unusedSimpArgs false
namespace Go.Proofs.YtflggoddfjmljaaGreatDoor
open Go.RowKit

structure PieceG where
  text : List UInt8
  var : Bool
  at_ : Nat
  deriving DecidableEq
/-- a byte more -/
def addP (l : List PieceG) (c : UInt8) : List PieceG := match l.getLast? with
  | some p => if p.var then l ++ [⟨[c], false, 0⟩] else l.dropLast ++ [⟨p.text ++ [c], false, p.at_⟩]
  | none => [⟨[c], false, 0⟩]
/-- an atom more -/
def atomP (l : List PieceG) : Atm → List PieceG
  | .ch c => addP l c
  | .var x p => l ++ [⟨x, true, p⟩]
/-- a word's pieces -/
def piecesP (l : List Atm) (acc : List PieceG) : List PieceG := l.foldl atomP acc
theorem piecesP_snoc (l : List Atm) (acc : List PieceG) (x : Atm) : piecesP (l ++ [x]) acc = atomP (piecesP l acc) x := by simp [piecesP]
theorem piecesP_app (l m : List Atm) (acc : List PieceG) : piecesP (l ++ m) acc = piecesP m (piecesP l acc) := by simp [piecesP]
theorem addP_nil (c : UInt8) : addP [] c = [⟨[c], false, 0⟩] := rfl
theorem addP_var (init : List PieceG) (p : PieceG) (c : UInt8) (h : p.var = true) : addP (init ++ [p]) c = init ++ [p] ++ [⟨[c], false, 0⟩] := by simp [addP, h]
theorem addP_run (init : List PieceG) (p : PieceG) (c : UInt8) (h : p.var = false) : addP (init ++ [p]) c = init ++ [⟨p.text ++ [c], false, p.at_⟩] := by simp [addP, h]
theorem addP_len (l : List PieceG) (c : UInt8) : (addP l c).length ≤ l.length + 1 := by
  unfold addP
  split
  · split <;> simp
  · simp
def PieceG.cells (p : PieceG) : List Value := [.string (S p.text), .bool p.var, .int .i64 p.at_]
def pcs : List PieceG → List Value
  | [] => []
  | p :: r => p.cells ++ pcs r
theorem pcs_len (l : List PieceG) : (pcs l).length = l.length * 3 := by
  induction l with
  | nil => rfl
  | cons x r ih => simp only [pcs, List.length_append, ih, List.length_cons, PieceG.cells, List.length_nil]; omega
theorem pcs_app (l m : List PieceG) : pcs (l ++ m) = pcs l ++ pcs m := by
  induction l with
  | nil => rfl
  | cons e r ih => simp only [List.cons_append, pcs, ih, List.append_assoc]
theorem pcs_one (p : PieceG) : pcs [p] = p.cells := by simp [pcs]
abbrev tFWord : TypeId := 111

/-- a word under way: its pieces' row from B on, its own block below B -/
structure Wd (B gw : Nat) (w : World) (l : List PieceG) (p : Nat) (ao : Option Addr) (c : Nat) : Prop where
  own : w.ownsRow B tPiece 3 (.slice ao l.length c) l.length (pcs l)
  blk : w.heap[gw]? = some (Obj.cells #[.slice ao l.length c, .int .i64 p] tFWord (0, 0))
  hB : B ≤ w.heap.size
  hgw : gw < B
theorem Wd.blk2 {B gw : Nat} {w : World} {l : List PieceG} {p : Nat} {ao : Option Addr} {c : Nat} (h : Wd B gw w l p ao c) : Blk2 w gw (.slice ao l.length c) (.int .i64 p) := ⟨_, h.blk⟩
theorem Wd.after {B gw : Nat} {w w' : World} {l : List PieceG} {p : Nat} {ao : Option Addr} {c : Nat} (h : Wd B gw w l p ao c) (hb : Below w.heap.size w w') : Wd B gw w' l p ao c :=
  ⟨ownsRow_below h.own hb, (hb.block gw (Array.getElem?_eq_some_iff.1 h.blk).1).trans h.blk, Nat.le_trans h.hB hb.size, h.hgw⟩
theorem Wd.alloc {B gw : Nat} {w : World} {l : List PieceG} {p : Nat} {ao : Option Addr} {c : Nat} (h : Wd B gw w l p ao c) (o : Obj) : Wd B gw (w.alloc o) l p ao c := h.after ((Below.refl _ _).alloc (Nat.le_refl _) o)
theorem Wd.drew {B gw : Nat} {w : World} {l : List PieceG} {p : Nat} {ao : Option Addr} {c : Nat} (h : Wd B gw w l p ao c) : Wd B gw w.drew l p ao c := h.after (Below.refl _ _).drew
/-- the last piece's cells -/
theorem Wd.last {B gw : Nat} {w : World} {init : List PieceG} {q : PieceG} {p : Nat} {ao : Option Addr} {c : Nat} (h : Wd B gw w (init ++ [q]) p ao c) :
    ∃ gp, ao = some ⟨gp, 0, none⟩ ∧ gp < w.heap.size ∧ B ≤ gp ∧ w.cell? ⟨gp, init.length * 3, none⟩ = some (.string (S q.text)) ∧ w.cell? ⟨gp, init.length * 3 + 1, none⟩ = some (.bool q.var) ∧ w.frozen? ⟨gp, init.length * 3, none⟩ = false := by
  have h0 := h.own
  rcases h.own.2 with ⟨e, e2⟩ | ⟨gp, cap, cur, e, hg, hh, r⟩
  · simp at e2
  · simp only [Value.slice.injEq] at e
    obtain ⟨rfl, -, -⟩ := e
    have hc := h0.cells (g := gp) rfl
    have ha : ∀ j, (⟨gp, 0, none⟩ : Addr).add j = ⟨gp, j, none⟩ := fun j => by unfold Addr.add; split <;> simp_all
    have h1 := hc (init.length * 3) (.string (S q.text)) (by rw [pcs_app, List.getElem?_append_right (by rw [pcs_len]; omega), pcs_len]; simp [pcs, PieceG.cells])
    have h2 := hc (init.length * 3 + 1) (.bool q.var) (by rw [pcs_app, List.getElem?_append_right (by rw [pcs_len]; omega), pcs_len]; simp [pcs, PieceG.cells])
    rw [ha] at h1 h2
    exact ⟨gp, rfl, (Array.getElem?_eq_some_iff.1 hh).1, hg, h1, h2, frozen_of_row w gp _ _ _ hh⟩
/-- the last piece's text is written -/
theorem Wd.text {B gw : Nat} {w : World} {init : List PieceG} {q : PieceG} {p gp c : Nat} (h : Wd B gw w (init ++ [q]) p (some ⟨gp, 0, none⟩) c) (t : List UInt8) :
    Wd B gw (w.setCell ⟨gp, init.length * 3, none⟩ (.string (S t))) (init ++ [⟨t, q.var, q.at_⟩]) p (some ⟨gp, 0, none⟩) c := by
  have e : (init ++ [(⟨t, q.var, q.at_⟩ : PieceG)]).length = (init ++ [q]).length := by simp
  obtain ⟨gp', e1, h1, h2, h3, h4, h5⟩ := h.last
  simp only [Option.some.injEq, Addr.mk.injEq] at e1
  obtain ⟨rfl, -, -⟩ := e1
  have hgw := h.hgw
  refine ⟨?_, ?_, by rw [World.size_setCell]; exact h.hB, h.hgw⟩
  · rw [e]
    have := ownsRow_set h.own (init.length * 3) (.string (S t)) (by simp only [List.length_append, List.length_cons, List.length_nil]; omega)
    rw [show (pcs (init ++ [q])).set (init.length * 3) (.string (S t)) = pcs (init ++ [⟨t, q.var, q.at_⟩]) from by
      rw [pcs_app, pcs_app, List.set_append_right _ _ (by rw [pcs_len]; omega), pcs_len]
      simp [pcs, PieceG.cells]] at this
    exact this
  · rw [e, heap_setCell_other w ⟨gp, init.length * 3, none⟩ gw _ (by show gw ≠ gp; omega)]; exact h.blk
/-- a piece more: the append, then its store -/
theorem Wd.push {B gw : Nat} {w w2 : World} {l : List PieceG} {p c c' : Nat} {ao ao' : Option Addr} (h : Wd B gw w l p ao c) (q : PieceG)
    (hown : w2.ownsRow B tPiece 3 (.slice ao' (l.length + 1) c') (l.length + 1) (pcs l ++ q.cells)) (hg : w.grownBy w2 (Value.slice ao l.length c).ownBlock) :
    Wd B gw (w2.setCell ⟨gw, 0, none⟩ (.slice ao' (l.length + 1) c')) (l ++ [q]) p ao' c' := by
  have hgw := h.hgw
  have hne : some gw ≠ (Value.slice ao l.length c).ownBlock := own_ne h.own hgw
  have hb := (hg.block gw (Array.getElem?_eq_some_iff.1 h.blk).1 hne).trans h.blk
  have e : (l ++ [q]).length = l.length + 1 := by simp
  refine ⟨?_, ?_, by rw [World.size_setCell]; exact Nat.le_trans h.hB hg.size, hgw⟩
  · rw [e, pcs_app, pcs_one]; exact ownsRow_setCell_below hown (a := ⟨gw, 0, none⟩) hgw _
  · rw [e]; exact heap_setCell_same w2 gw 0 _ _ _ hb
theorem Wd.pushN {B gw : Nat} {w w2 : World} {l : List PieceG} {p c c' n : Nat} {ao ao' : Option Addr} (h : Wd B gw w l p ao c) (hn : l.length = n) (q : PieceG)
    (hown : w2.ownsRow B tPiece 3 (.slice ao' (n + 1) c') (n + 1) (pcs l ++ q.cells)) (hg : w.grownBy w2 (Value.slice ao n c).ownBlock) :
    Wd B gw (w2.setCell ⟨gw, 0, none⟩ (.slice ao' (n + 1) c')) (l ++ [q]) p ao' c' := by subst hn; exact h.push q hown hg
theorem Wd.ownN {B gw : Nat} {w : World} {l : List PieceG} {p c n : Nat} {ao : Option Addr} (h : Wd B gw w l p ao c) (hn : l.length = n) : w.ownsRow B tPiece 3 (.slice ao n c) n (pcs l) := by subst hn; exact h.own
theorem Wd.keptN {B gw : Nat} {w w2 : World} {l : List PieceG} {p c n : Nat} {ao : Option Addr} (h : Wd B gw w l p ao c) (hn : l.length = n) (hg : w.grownBy w2 (Value.slice ao n c).ownBlock) : Blk2 w2 gw (.slice ao n c) (.int .i64 p) := by
  subst hn; exact h.blk2.grown hg (own_ne h.own h.hgw)
theorem Wd.kept {B gw : Nat} {w w2 : World} {l : List PieceG} {p c : Nat} {ao : Option Addr} (h : Wd B gw w l p ao c) (hg : w.grownBy w2 (Value.slice ao l.length c).ownBlock) : Blk2 w2 gw (.slice ao l.length c) (.int .i64 p) := h.blk2.grown hg (own_ne h.own h.hgw)
end Go.Proofs.YtflggoddfjmljaaGreatDoor
namespace Go.Proofs.YtflggoddfjmljaaGreatDoor
open Go.RowKit

/-- pieces' text, if there is no variable -/
def plainP : List PieceG → List UInt8 → List UInt8 × Bool
  | [], acc => (acc, true)
  | p :: r, acc => if p.var then ([], false) else plainP r (acc ++ p.text)
theorem plainP_var {l : List PieceG} {k : Nat} (h : k < l.length) (hv : l[k].var = true) (b : List UInt8) : plainP (l.drop k) b = ([], false) := by
  rw [List.drop_eq_getElem_cons h, plainP, if_pos hv]
theorem plainP_run {l : List PieceG} {k : Nat} (h : k < l.length) (hv : l[k].var = false) (b : List UInt8) : plainP (l.drop k) b = plainP (l.drop (k + 1)) (b ++ l[k].text) := by
  rw [List.drop_eq_getElem_cons h, plainP, if_neg (by simp [hv])]
theorem pcs_get : ∀ (l : List PieceG) (k : Nat) (h : k < l.length), (pcs l)[k * 3]? = some (.string (S l[k].text)) ∧ (pcs l)[k * 3 + 1]? = some (.bool l[k].var) ∧ (pcs l)[k * 3 + 2]? = some (.int .i64 l[k].at_)
  | y :: r, 0, _ => ⟨rfl, rfl, rfl⟩
  | y :: r, k + 1, h => by
    have := pcs_get r k (by simpa using h)
    have e : ∀ j, (pcs (y :: r))[(k + 1) * 3 + j]? = (pcs r)[k * 3 + j]? := by
      intro j
      rw [pcs, List.getElem?_append_right (by simp [PieceG.cells]; omega)]
      congr 1
      simp [PieceG.cells]; omega
    have e0 := e 0
    simp only [Nat.add_zero] at e0
    simp only [List.getElem_cons_succ, e, e0]
    exact this

set_option maxRecDepth 100000 in
set_option maxHeartbeats 2000000 in
theorem plainP_any (l : List PieceG) (at_ c : Nat) (ao : Option Addr) (w : World) (hl : l.length ≤ 1000000) (ht : ∀ q ∈ l, q.text.length ≤ 1000000) (hrd : Rd w ao (pcs l)) :
    Calls Tryz.prog 53 #[.agg #[.slice ao l.length c, .int .i64 at_]] w fun e w' => e = .returned (.tuple #[.string (S (plainP l []).1), .bool (plainP l []).2]) ∧ Below w.heap.size w w' := by
  have P := Lib.hid (Blk2.new w (.slice ao l.length c) (.int .i64 at_) tFWord)
  have hbw : Below w.heap.size w (w.alloc (.cells #[.slice ao l.length c, .int .i64 at_] tFWord)) := (Below.refl _ _).alloc (Nat.le_refl _) _
  have HT := Lib.hid ht
  clear ht
  go_enter Tryz.func53, Tryz.ntmps53
  go_wp2
  generalize hW : w.alloc (.cells #[.slice ao l.length c, .int .i64 at_] tFWord) = w1 at *
  clear hW
  go_loopw [4, 10] (fun v i wr => ∃ (b : List UInt8) (k : Nat), i = .int .i64 k ∧ v = .string (S b) ∧ k ≤ l.length ∧ b.length ≤ k * 1000000 ∧ Hid (plainP l [] = plainP (l.drop k) b) ∧ Below w.heap.size w wr) (fun _ i _ => l.length - (intOf i).toNat)
  case atStart => exact ⟨[], 0, by go_num, rfl, by omega, by simp, rfl, hbw⟩
  case round =>
    obtain ⟨b, k, rfl, rfl, hk, hb, HQ, hbel⟩ := hrel
    by_cases hlt : k < l.length
    · obtain ⟨b2, o, rfl, hb2, hc⟩ := hrd.at (k * 3) (by rw [pcs_len]; omega)
      obtain ⟨h1, h2, h3⟩ := pcs_get l k hlt
      have m1 : wr.cell? ⟨b2, o + k * 3, none⟩ = some (.string (S l[k].text)) := (hbel.cell (p := ⟨b2, o + k * 3, none⟩) hb2).trans (hc _ _ h1)
      have m2 : wr.cell? ⟨b2, o + k * 3 + 1, none⟩ = some (.bool l[k].var) := (hbel.cell (p := ⟨b2, o + k * 3 + 1, none⟩) hb2).trans (hc _ _ h2)
      have m3 : wr.cell? ⟨b2, o + k * 3 + 2, none⟩ = some (.int .i64 l[k].at_) := (hbel.cell (p := ⟨b2, o + k * 3 + 2, none⟩) hb2).trans (hc _ _ h3)
      have htx := HT.out l[k] (List.getElem_mem hlt)
      have hsum : b.length + l[k].text.length ≤ 9223372036854775807 := by
        have : k * 1000000 ≤ 1000000 * 1000000 := Nat.mul_le_mul_right _ (by omega)
        omega
      have hsz := hbel.size
      clear h1 h2 h3 hc
      cases hv : l[k].var
      · have Y := Lib.hid (show plainP l [] = plainP (l.drop (k + 1)) (b ++ l[k].text) by rw [HQ.out]; exact plainP_run hlt hv b)
        rw [hv] at m2
        clear HQ hv
        go_wp2
        go_roundw
        case rel => exact ⟨b ++ l[k].text, k + 1, by go_num, rfl, by omega, by simp; omega, Y, hbel.alloc (by omega) _⟩
        case measure => simp [intOf]; omega
      · have Y := Lib.hid (show plainP l [] = ([], false) by rw [HQ.out]; exact plainP_var hlt hv b)
        rw [hv] at m2
        clear HQ hv
        go_wp2
        go_returns
        refine ⟨?_, hbel.alloc (by omega) _⟩
        rw [Y.out]; rfl
    · have Y := Lib.hid (show plainP l [] = (b, true) by rw [HQ.out, List.drop_of_length_le (by omega), plainP])
      clear HQ
      go_wp2
      go_returns
      refine ⟨?_, hbel⟩
      rw [Y.out]; rfl
end Go.Proofs.YtflggoddfjmljaaGreatDoor
namespace Go.Proofs.YtflggoddfjmljaaGreatDoor

theorem plainA_snoc (l : List Atm) (x : Atm) (acc : List UInt8) : plainA (l ++ [x]) acc = match x with
    | .ch c => if (plainA l acc).2 then ((plainA l acc).1 ++ [c], true) else ([], false)
    | .var _ _ => ([], false) := by
  induction l generalizing acc with
  | nil => cases x <;> simp [plainA]
  | cons y r ih =>
    cases y with
    | ch c => simp only [List.cons_append, plainA]; exact ih _
    | var n p => cases x <;> simp [plainA]
theorem plainA_bad (l : List Atm) (acc : List UInt8) (h : (plainA l acc).2 = false) : plainA l acc = ([], false) := by
  induction l generalizing acc with
  | nil => simp [plainA] at h
  | cons y r ih =>
    cases y with
    | ch c => rw [plainA] at h ⊢; exact ih _ h
    | var n p => rfl
theorem plainP_snoc (l : List PieceG) (q : PieceG) (acc : List UInt8) : plainP (l ++ [q]) acc = if (plainP l acc).2 = true ∧ q.var = false then ((plainP l acc).1 ++ q.text, true) else ([], false) := by
  induction l generalizing acc with
  | nil => cases hv : q.var <;> simp [plainP, hv]
  | cons y r ih =>
    simp only [List.cons_append, plainP]
    split
    · simp
    · exact ih _
theorem plain_same (l : List Atm) : plainP (piecesP l []) [] = plainA l [] := by
  induction hn : l.length generalizing l with
  | zero => rw [List.eq_nil_of_length_eq_zero hn]; rfl
  | succ n ihn =>
    rcases List.eq_nil_or_concat l with rfl | ⟨l, x, rfl⟩
    · simp at hn
    rw [List.concat_eq_append] at hn ⊢
    have ih := ihn l (by simpa using hn)
    rw [piecesP_snoc, plainA_snoc]
    cases x with
    | var n p => simp only [atomP]; rw [plainP_snoc]; simp
    | ch c =>
      simp only [atomP]
      rw [← ih]
      generalize piecesP l [] = L
      rcases List.eq_nil_or_concat L with rfl | ⟨init, q, rfl⟩
      · simp [addP, plainP]
      · rw [List.concat_eq_append]
        cases hv : q.var
        · rw [addP_run init q c hv, plainP_snoc, plainP_snoc]
          cases (plainP init []).2 <;> simp [hv]
        · rw [addP_var init q c hv, plainP_snoc, plainP_snoc]
          simp [hv]
end Go.Proofs.YtflggoddfjmljaaGreatDoor
namespace Go.Proofs.YtflggoddfjmljaaGreatDoor
open Go.RowKit

abbrev tFStage : TypeId := 101
abbrev tFStep : TypeId := 107
/-- a word's pieces -/
def WordG.pl (w : WordG) : List PieceG := piecesP w.l []
/-- an instruction's number -/
def kindB (op : List UInt8) : Int := if op = wFROM then 0 else if op = wCOPY then 1 else if op = wADD then 2 else if op = wRM then 3 else if op = wMKDIR then 4 else if op = wLINK then 5 else if op = wENV then 6 else if op = wWORKDIR then 7 else -1

/-- words, cell by cell -/
def FWordCells (w : World) : List WordG → List Value → Prop
  | [], cs => cs = []
  | x :: r, cs => ∃ a rest, cs = a :: .int .i64 x.at_ :: rest ∧ w.ownsRow 0 tPiece 3 a x.pl.length (pcs x.pl) ∧ FWordCells w r rest
theorem FWordCells.len {w : World} : ∀ {ws : List WordG} {cs : List Value}, FWordCells w ws cs → cs.length = ws.length * 2
  | [], cs, h => by simp [FWordCells] at h; simp [h]
  | x :: r, cs, h => by
    obtain ⟨a, rest, rfl, _, hr⟩ := h
    have := hr.len
    simp [this]; omega
theorem FWordCells.app {w : World} {y : WordG} {b : Value} (hb : w.ownsRow 0 tPiece 3 b y.pl.length (pcs y.pl)) : ∀ {ws : List WordG} {cs : List Value}, FWordCells w ws cs → FWordCells w (ws ++ [y]) (cs ++ [b, .int .i64 y.at_])
  | [], cs, h => by simp [FWordCells] at h; subst h; exact ⟨b, [], rfl, hb, rfl⟩
  | x :: r, cs, h => by
    obtain ⟨a, rest, rfl, ha, hr⟩ := h
    exact ⟨a, rest ++ [b, .int .i64 y.at_], rfl, ha, hr.app hb⟩
theorem FWordCells.keep {w w' : World} (hk : KeepT tPiece w w') : ∀ {ws : List WordG} {cs : List Value}, FWordCells w ws cs → FWordCells w' ws cs
  | [], cs, h => h
  | x :: r, cs, h => by
    obtain ⟨a, rest, rfl, ha, hr⟩ := h
    exact ⟨a, rest, rfl, ownsRow_keep ha hk, hr.keep hk⟩
theorem FWordCells.one {w : World} : ∀ {ws : List WordG} {cs : List Value}, FWordCells w ws cs → ∀ u ∈ cs, u.oneCell' = true
  | [], cs, h => by simp [FWordCells] at h; simp [h]
  | x :: r, cs, h => by
    obtain ⟨a, rest, rfl, ha, hr⟩ := h
    intro u hu
    rcases List.mem_cons.1 hu with rfl | hu
    · obtain ⟨ao, c, rfl⟩ := ownsRow_form ha; rfl
    · rcases List.mem_cons.1 hu with rfl | hu
      · rfl
      · exact hr.one u hu
theorem FWordCells.get {w : World} : ∀ {ws : List WordG} {cs : List Value}, FWordCells w ws cs → ∀ k (h : k < ws.length), ∃ ao c, cs[k * 2]? = some (.slice ao ws[k].pl.length c) ∧ cs[k * 2 + 1]? = some (.int .i64 ws[k].at_) ∧ w.ownsRow 0 tPiece 3 (.slice ao ws[k].pl.length c) ws[k].pl.length (pcs ws[k].pl)
  | x :: r, cs, h, 0, _ => by
    obtain ⟨a, rest, rfl, ha, hr⟩ := h
    obtain ⟨ao, c, rfl⟩ := ownsRow_form ha
    exact ⟨ao, c, rfl, rfl, ha⟩
  | x :: r, cs, h, k + 1, hk => by
    obtain ⟨a, rest, rfl, ha, hr⟩ := h
    obtain ⟨ao, c, h1, h2, h3⟩ := hr.get k (by simpa using hk)
    refine ⟨ao, c, ?_, ?_, h3⟩
    · rw [show (k + 1) * 2 = k * 2 + 1 + 1 by omega]; simpa using h1
    · rw [show (k + 1) * 2 + 1 = k * 2 + 1 + 1 + 1 by omega]; simpa using h2
theorem FWordCells.drop {w : World} : ∀ {ws : List WordG} {cs : List Value}, FWordCells w ws cs → ∀ k, FWordCells w (ws.drop k) (cs.drop (k * 2))
  | ws, cs, h, 0 => by simpa using h
  | [], cs, h, k + 1 => by simp [FWordCells] at h; subst h; simp [FWordCells]
  | x :: r, cs, h, k + 1 => by
    obtain ⟨a, rest, rfl, ha, hr⟩ := h
    rw [show (k + 1) * 2 = k * 2 + 1 + 1 by omega]
    simpa using hr.drop k
end Go.Proofs.YtflggoddfjmljaaGreatDoor
namespace Go.Proofs.YtflggoddfjmljaaGreatDoor
open Go.RowKit

/-- words that are read -/
def FWordsR (w : World) (A : Option Addr) (ws : List WordG) : Prop := ∃ cs, RdT tFWord w A cs ∧ FWordCells w ws cs
theorem FWordsR.keep {w w' : World} {A : Option Addr} {ws : List WordG} (h : FWordsR w A ws) (h1 : KeepT tFWord w w') (h2 : KeepT tPiece w w') : FWordsR w' A ws := by
  obtain ⟨cs, a, b⟩ := h
  exact ⟨cs, a.keep h1, b.keep h2⟩
theorem FWordsR.drop {w : World} {b o : Nat} {ws : List WordG} (h : FWordsR w (some ⟨b, o, none⟩) ws) (k : Nat) : FWordsR w (some ⟨b, o + k * 2, none⟩) (ws.drop k) := by
  obtain ⟨cs, h1, h2⟩ := h
  exact ⟨_, h1.drop (k * 2), h2.drop k⟩

/-- steps, cell by cell -/
def FStepCells (w : World) : List StepG → List Value → Prop
  | [], cs => cs = []
  | x :: r, cs => ∃ A c rest, cs = .int .i64 (kindB x.op) :: .slice A x.words.length c :: .int .i64 x.stage :: .int .i64 x.at_ :: rest ∧ FWordsR w A x.words ∧ FStepCells w r rest
theorem FStepCells.len {w : World} : ∀ {l : List StepG} {cs : List Value}, FStepCells w l cs → cs.length = l.length * 4
  | [], cs, h => by simp [FStepCells] at h; simp [h]
  | x :: r, cs, h => by
    obtain ⟨A, c, rest, rfl, _, hr⟩ := h
    have := hr.len
    simp [this]; omega
theorem FStepCells.keep {w w' : World} (h1 : KeepT tFWord w w') (h2 : KeepT tPiece w w') : ∀ {l : List StepG} {cs : List Value}, FStepCells w l cs → FStepCells w' l cs
  | [], cs, h => h
  | x :: r, cs, h => by
    obtain ⟨A, c, rest, rfl, ha, hr⟩ := h
    exact ⟨A, c, rest, rfl, ha.keep h1 h2, hr.keep h1 h2⟩
theorem FStepCells.app {w : World} {y : StepG} {A : Option Addr} {c : Nat} (hy : FWordsR w A y.words) : ∀ {l : List StepG} {cs : List Value}, FStepCells w l cs → FStepCells w (l ++ [y]) (cs ++ [.int .i64 (kindB y.op), .slice A y.words.length c, .int .i64 y.stage, .int .i64 y.at_])
  | [], cs, h => by simp [FStepCells] at h; subst h; exact ⟨A, c, [], rfl, hy, rfl⟩
  | x :: r, cs, h => by
    obtain ⟨A', c', rest, rfl, ha, hr⟩ := h
    exact ⟨A', c', _, rfl, ha, hr.app hy⟩
theorem FStepCells.get {w : World} : ∀ {l : List StepG} {cs : List Value}, FStepCells w l cs → ∀ k (h : k < l.length), ∃ A c, cs[k * 4]? = some (.int .i64 (kindB l[k].op)) ∧ cs[k * 4 + 1]? = some (.slice A l[k].words.length c) ∧ cs[k * 4 + 2]? = some (.int .i64 l[k].stage) ∧ cs[k * 4 + 3]? = some (.int .i64 l[k].at_) ∧ FWordsR w A l[k].words
  | x :: r, cs, h, 0, _ => by
    obtain ⟨A, c, rest, rfl, ha, hr⟩ := h
    exact ⟨A, c, rfl, rfl, rfl, rfl, ha⟩
  | x :: r, cs, h, k + 1, hk => by
    obtain ⟨A, c, rest, rfl, ha, hr⟩ := h
    obtain ⟨A', c', h1, h2, h3, h4, h5⟩ := hr.get k (by simpa using hk)
    refine ⟨A', c', ?_, ?_, ?_, ?_, h5⟩
    · rw [show (k + 1) * 4 = k * 4 + 1 + 1 + 1 + 1 by omega]; simpa using h1
    · rw [show (k + 1) * 4 + 1 = k * 4 + 1 + 1 + 1 + 1 + 1 by omega]; simpa using h2
    · rw [show (k + 1) * 4 + 2 = k * 4 + 2 + 1 + 1 + 1 + 1 by omega]; simpa using h3
    · rw [show (k + 1) * 4 + 3 = k * 4 + 3 + 1 + 1 + 1 + 1 by omega]; simpa using h4

/-- a stage's two rows: their blocks from lo on, before hi -/
structure FStageAt (lo hi : Nat) (w : World) (x : StageG) (sv vv : Value) : Prop where
  steps : ∃ scs, w.ownsRow lo tFStep 4 sv x.steps.length scs ∧ FStepCells w x.steps scs
  vars : w.ownsRow lo tText 1 vv x.vars.length (strs x.vars)
  shi : ∀ g, sv.ownBlock = some g → g < hi
  vhi : ∀ g, vv.ownBlock = some g → g < hi
theorem FStageAt.mono {lo hi lo' hi' : Nat} {w : World} {x : StageG} {sv vv : Value} (h : FStageAt lo hi w x sv vv) (h1 : lo' ≤ lo) (h2 : hi ≤ hi') : FStageAt lo' hi' w x sv vv := by
  obtain ⟨scs, a, b⟩ := h.steps
  exact ⟨⟨scs, ownsRow_base a h1, b⟩, ownsRow_base h.vars h1, fun g e => Nat.lt_of_lt_of_le (h.shi g e) h2, fun g e => Nat.lt_of_lt_of_le (h.vhi g e) h2⟩
/-- what is below hi stays, words and atoms stay: so does the stage -/
theorem FStageAt.stays {lo hi : Nat} {w w' : World} {x : StageG} {sv vv : Value} (h : FStageAt lo hi w x sv vv) (h1 : KeepT tFWord w w') (h2 : KeepT tPiece w w')
    (hs : ∀ g cur, g < hi → w.heap[g]? = some (Obj.cells cur tFStep (0, 0)) → w'.heap[g]? = some (Obj.cells cur tFStep (0, 0)))
    (hv : ∀ g cur, g < hi → w.heap[g]? = some (Obj.cells cur tText (0, 0)) → w'.heap[g]? = some (Obj.cells cur tText (0, 0))) : FStageAt lo hi w' x sv vv := by
  obtain ⟨⟨scs, ⟨a1, a2⟩, b⟩, ⟨v1, v2⟩, c, d⟩ := h
  refine ⟨⟨scs, ⟨a1, ?_⟩, b.keep h1 h2⟩, ⟨v1, ?_⟩, c, d⟩
  · rcases a2 with a2 | ⟨g, cap, cur, rfl, hg, hh, r⟩
    · exact .inl a2
    · exact .inr ⟨g, cap, cur, rfl, hg, hs g cur (c g rfl) hh, r⟩
  · rcases v2 with v2 | ⟨g, cap, cur, rfl, hg, hh, r⟩
    · exact .inl v2
    · exact .inr ⟨g, cap, cur, rfl, hg, hv g cur (d g rfl) hh, r⟩

/-- stages, cell by cell -/
def FStageCells (lo hi : Nat) (w : World) : List StageG → List Value → Prop
  | [], cs => cs = []
  | x :: r, cs => ∃ sv vv rest, cs = .string (S x.name) :: .int .i64 x.base :: sv :: vv :: rest ∧ FStageAt lo hi w x sv vv ∧ FStageCells lo hi w r rest
theorem FStageCells.len {lo hi : Nat} {w : World} : ∀ {l : List StageG} {cs : List Value}, FStageCells lo hi w l cs → cs.length = l.length * 4
  | [], cs, h => by simp [FStageCells] at h; simp [h]
  | x :: r, cs, h => by
    obtain ⟨sv, vv, rest, rfl, _, hr⟩ := h
    have := hr.len
    simp [this]; omega
theorem FStageCells.mono {lo hi lo' hi' : Nat} {w : World} (h1 : lo' ≤ lo) (h2 : hi ≤ hi') : ∀ {l : List StageG} {cs : List Value}, FStageCells lo hi w l cs → FStageCells lo' hi' w l cs
  | [], cs, h => h
  | x :: r, cs, h => by
    obtain ⟨sv, vv, rest, rfl, ha, hr⟩ := h
    exact ⟨sv, vv, rest, rfl, ha.mono h1 h2, hr.mono h1 h2⟩
theorem FStageCells.stays {lo hi : Nat} {w w' : World} (h1 : KeepT tFWord w w') (h2 : KeepT tPiece w w')
    (hs : ∀ g cur, g < hi → w.heap[g]? = some (Obj.cells cur tFStep (0, 0)) → w'.heap[g]? = some (Obj.cells cur tFStep (0, 0)))
    (hv : ∀ g cur, g < hi → w.heap[g]? = some (Obj.cells cur tText (0, 0)) → w'.heap[g]? = some (Obj.cells cur tText (0, 0))) : ∀ {l : List StageG} {cs : List Value}, FStageCells lo hi w l cs → FStageCells lo hi w' l cs
  | [], cs, h => h
  | x :: r, cs, h => by
    obtain ⟨sv, vv, rest, rfl, ha, hr⟩ := h
    exact ⟨sv, vv, rest, rfl, ha.stays h1 h2 hs hv, hr.stays h1 h2 hs hv⟩
theorem FStageCells.app {lo hi : Nat} {w : World} : ∀ {l m : List StageG} {cs ds : List Value}, FStageCells lo hi w l cs → FStageCells lo hi w m ds → FStageCells lo hi w (l ++ m) (cs ++ ds)
  | [], m, cs, ds, h, k => by simp [FStageCells] at h; subst h; exact k
  | x :: r, m, cs, ds, h, k => by
    obtain ⟨sv, vv, rest, rfl, ha, hr⟩ := h
    exact ⟨sv, vv, rest ++ ds, rfl, ha, hr.app k⟩
theorem FStageCells.get {lo hi : Nat} {w : World} : ∀ {l : List StageG} {cs : List Value}, FStageCells lo hi w l cs → ∀ k (h : k < l.length), ∃ sv vv, cs[k * 4]? = some (.string (S l[k].name)) ∧ cs[k * 4 + 1]? = some (.int .i64 l[k].base) ∧ cs[k * 4 + 2]? = some sv ∧ cs[k * 4 + 3]? = some vv ∧ FStageAt lo hi w l[k] sv vv
  | x :: r, cs, h, 0, _ => by
    obtain ⟨sv, vv, rest, rfl, ha, hr⟩ := h
    exact ⟨sv, vv, rfl, rfl, rfl, rfl, ha⟩
  | x :: r, cs, h, k + 1, hk => by
    obtain ⟨sv, vv, rest, rfl, ha, hr⟩ := h
    obtain ⟨sv', vv', h1, h2, h3, h4, h5⟩ := hr.get k (by simpa using hk)
    refine ⟨sv', vv', ?_, ?_, ?_, ?_, h5⟩
    · rw [show (k + 1) * 4 = k * 4 + 1 + 1 + 1 + 1 by omega]; simpa using h1
    · rw [show (k + 1) * 4 + 1 = k * 4 + 1 + 1 + 1 + 1 + 1 by omega]; simpa using h2
    · rw [show (k + 1) * 4 + 2 = k * 4 + 2 + 1 + 1 + 1 + 1 by omega]; simpa using h3
    · rw [show (k + 1) * 4 + 3 = k * 4 + 3 + 1 + 1 + 1 + 1 by omega]; simpa using h4

/-- the stages: all but the last lie below H, the last from H on -/
structure FStagesR (B : Nat) (w : World) (l : List StageG) (ao : Option Addr) (c : Nat) : Prop where
  lies : ∃ (H : Nat) (init last : List StageG) (cs0 cs1 : List Value), l = init ++ last ∧ last.length ≤ 1 ∧ (last = [] → init = []) ∧ H ≤ w.heap.size ∧ B ≤ H ∧
    w.ownsRow B tFStage 4 (.slice ao l.length c) l.length (cs0 ++ cs1) ∧ FStageCells B H w init cs0 ∧ FStageCells H w.heap.size w last cs1
theorem FStagesR.nil (B : Nat) (w : World) (h : B ≤ w.heap.size) : FStagesR B w [] none 0 :=
  ⟨B, [], [], [], [], rfl, by simp, by simp, h, Nat.le_refl _, World.ownsRow_nil _ _ _ _, rfl, rfl⟩
theorem FStagesR.all {B : Nat} {w : World} {l : List StageG} {ao : Option Addr} {c : Nat} (h : FStagesR B w l ao c) : ∃ cs, w.ownsRow B tFStage 4 (.slice ao l.length c) l.length cs ∧ FStageCells B w.heap.size w l cs := by
  obtain ⟨H, init, last, cs0, cs1, rfl, h1, h2, h3, h4, h5, h6, h7⟩ := h.lies
  exact ⟨_, h5, (h6.mono (Nat.le_refl _) h3).app (h7.mono h4 (Nat.le_refl _))⟩
/-- nothing of what there is turns: the stages stay -/
theorem FStagesR.after {B : Nat} {w w' : World} {l : List StageG} {ao : Option Addr} {c : Nat} (h : FStagesR B w l ao c) (hb : Below w.heap.size w w') : FStagesR B w' l ao c := by
  obtain ⟨H, init, last, cs0, cs1, rfl, h1, h2, h3, h4, h5, h6, h7⟩ := h.lies
  have hT : ∀ T, KeepT T w w' := fun T => KeepT.below hb
  refine ⟨H, init, last, cs0, cs1, rfl, h1, h2, Nat.le_trans h3 hb.size, h4, ownsRow_keep h5 (hT _), ?_, ?_⟩
  · exact h6.stays (hT _) (hT _) (fun g cur _ e => hT _ g cur e) (fun g cur _ e => hT _ g cur e)
  · exact (h7.stays (hT _) (hT _) (fun g cur _ e => hT _ g cur e) (fun g cur _ e => hT _ g cur e)).mono (Nat.le_refl _) hb.size
/-- stages' own rows stay: so do the stages -/
theorem FStagesR.keep {B : Nat} {w w' : World} {l : List StageG} {ao : Option Addr} {c : Nat} (h : FStagesR B w l ao c) (h1 : KeepT tFStage w w') (h2 : KeepT tFStep w w') (h3 : KeepT tText w w') (h4 : KeepT tFWord w w') (h5 : KeepT tPiece w w') (hs : w.heap.size ≤ w'.heap.size) : FStagesR B w' l ao c := by
  obtain ⟨H, init, last, cs0, cs1, rfl, e1, e2, e3, e4, e5, e6, e7⟩ := h.lies
  refine ⟨H, init, last, cs0, cs1, rfl, e1, e2, Nat.le_trans e3 hs, e4, ownsRow_keep e5 h1, ?_, ?_⟩
  · exact e6.stays h4 h5 (fun g cur _ e => h2 g cur e) (fun g cur _ e => h3 g cur e)
  · exact (e7.stays h4 h5 (fun g cur _ e => h2 g cur e) (fun g cur _ e => h3 g cur e)).mono (Nat.le_refl _) hs

end Go.Proofs.YtflggoddfjmljaaGreatDoor
namespace Go.Proofs.YtflggoddfjmljaaGreatDoor
open Go.RowKit

/-- what 'from' and 'step' leave: all blocks of other types than a stage's, a step's, a text's -/
def FKeepX (w w' : World) : Prop := ∀ T, T ≠ tFStage → T ≠ tFStep → T ≠ tText → KeepT T w w'
theorem FKeepX.below {w w' : World} (h : Below w.heap.size w w') : FKeepX w w' := fun _ _ _ _ => KeepT.below h
theorem FStagesR.push {B : Nat} {w wx w2 : World} {st : List StageG} {x : StageG} {ao ao' : Option Addr} {c c' : Nat} {cs : List Value} {sv vv : Value}
    (hown : w.ownsRow B tFStage 4 (.slice ao st.length c) st.length cs) (hsc : FStageCells B w.heap.size w st cs) (hb : Below w.heap.size w wx) (hg : wx.grownBy w2 (Value.slice ao st.length c).ownBlock)
    (hx : FStageAt w.heap.size wx.heap.size wx x sv vv) (hown2 : w2.ownsRow B tFStage 4 (.slice ao' (st.length + 1) c') (st.length + 1) (cs ++ [.string (S x.name), .int .i64 x.base, sv, vv])) (hB : B ≤ w.heap.size) :
    FStagesR B w2 (st ++ [x]) ao' c' ∧ FKeepX w w2 := by
  have hownx := ownsRow_below hown hb
  have hT : ∀ T, T ≠ tFStage → KeepT T wx w2 := fun T h => KeepT.grown hg hownx (fun e => h e.symm)
  have hT' : ∀ T, T ≠ tFStage → KeepT T w w2 := fun T h => (KeepT.below hb).trans (hT T h)
  refine ⟨⟨w.heap.size, st, [x], cs, [.string (S x.name), .int .i64 x.base, sv, vv], rfl, by simp, by simp, Nat.le_trans hb.size hg.size, hB, ?_, ?_, ?_⟩, fun T h _ _ => hT' T h⟩
  · rw [List.length_append]; exact hown2
  · exact hsc.stays (hT' _ (by decide)) (hT' _ (by decide)) (fun g cur _ e => hT' tFStep (by decide) g cur e) (fun g cur _ e => hT' tText (by decide) g cur e)
  · exact ⟨sv, vv, [], rfl, (hx.stays (hT _ (by decide)) (hT _ (by decide)) (fun g cur _ e => hT tFStep (by decide) g cur e) (fun g cur _ e => hT tText (by decide) g cur e)).mono (Nat.le_refl _) hg.size, rfl⟩
theorem FKeepX.trans {a b c : World} (h : FKeepX a b) (k : FKeepX b c) : FKeepX a c := fun T h1 h2 h3 => (h T h1 h2 h3).trans (k T h1 h2 h3)
/-- the last stage, by its rows -/
structure FLastR (B H : Nat) (w : World) (init : List StageG) (y : StageG) (gb c : Nat) (cs0 : List Value) (sv vv : Value) (scs : List Value) : Prop where
  own : w.ownsRow B tFStage 4 (.slice (some ⟨gb, 0, none⟩) (init.length + 1) c) (init.length + 1) (cs0 ++ [.string (S y.name), .int .i64 y.base, sv, vv])
  ini : FStageCells B H w init cs0
  steps : w.ownsRow H tFStep 4 sv y.steps.length scs
  cells : FStepCells w y.steps scs
  vars : w.ownsRow H tText 1 vv y.vars.length (strs y.vars)
  hH : H ≤ w.heap.size
  hB : B ≤ H
theorem FStagesR.last {B : Nat} {w : World} {st : List StageG} {ao : Option Addr} {c : Nat} (h : FStagesR B w st ao c) (hne : st ≠ []) :
    ∃ H init y gb cs0 sv vv scs, st = init ++ [y] ∧ ao = some ⟨gb, 0, none⟩ ∧ FLastR B H w init y gb c cs0 sv vv scs := by
  obtain ⟨H, init, last, cs0, cs1, rfl, h1, h2, h3, h4, h5, h6, h7⟩ := h.lies
  match last, h1, h2, h7, h5, hne with
  | [], _, h2, _, _, hne => exact absurd (by simp [h2 rfl]) hne
  | [y], _, _, h7, h5, _ =>
    obtain ⟨sv, vv, rest, rfl, ha, hr⟩ := h7
    simp only [FStageCells] at hr
    subst hr
    obtain ⟨scs, a1, a2⟩ := ha.steps
    have h5' := h5
    rcases h5.2 with ⟨e, e2⟩ | ⟨gb, cap, cur, e, r⟩
    · simp at e2
    · simp only [Value.slice.injEq] at e
      obtain ⟨rfl, -, -⟩ := e
      rw [List.length_append] at h5'
      exact ⟨H, init, y, gb, cs0, sv, vv, scs, rfl, rfl, h5', h6, a1, a2, ha.vars, h3, h4⟩
theorem FLastR.stages {B H : Nat} {w : World} {init : List StageG} {y : StageG} {gb c : Nat} {cs0 : List Value} {sv vv : Value} {scs : List Value} (h : FLastR B H w init y gb c cs0 sv vv scs) : FStagesR B w (init ++ [y]) (some ⟨gb, 0, none⟩) c := by
  refine ⟨H, init, [y], cs0, _, rfl, by simp, by simp, h.hH, h.hB, ?_, h.ini, ⟨sv, vv, [], rfl, ⟨⟨scs, h.steps, h.cells⟩, h.vars, own_lt h.steps, own_lt h.vars⟩, rfl⟩⟩
  rw [List.length_append]; exact h.own
theorem FLastR.facts {B H : Nat} {w : World} {init : List StageG} {y : StageG} {gb c : Nat} {cs0 : List Value} {sv vv : Value} {scs : List Value} (h : FLastR B H w init y gb c cs0 sv vv scs) :
    gb < w.heap.size ∧ w.cell? ⟨gb, init.length * 4 + 2, none⟩ = some sv ∧ w.cell? ⟨gb, init.length * 4 + 3, none⟩ = some vv ∧ w.frozen? ⟨gb, init.length * 4 + 2, none⟩ = false ∧ w.frozen? ⟨gb, init.length * 4 + 3, none⟩ = false := by
  have hl := h.ini.len
  have hc := h.own.cells (g := gb) rfl
  have ha : ∀ j, (⟨gb, 0, none⟩ : Addr).add j = ⟨gb, j, none⟩ := fun j => by unfold Addr.add; split <;> simp_all
  have h2 := hc (init.length * 4 + 2) sv (by rw [List.getElem?_append_right (by omega), hl]; simp)
  have h3 := hc (init.length * 4 + 3) vv (by rw [List.getElem?_append_right (by omega), hl]; simp)
  rw [ha] at h2 h3
  rcases h.own.2 with ⟨e, _⟩ | ⟨gb', cap, cur, e, hg, hh, r⟩
  · simp at e
  · simp only [Value.slice.injEq, Option.some.injEq, Addr.mk.injEq] at e
    obtain ⟨⟨rfl, -, -⟩, -, -⟩ := e
    exact ⟨(Array.getElem?_eq_some_iff.1 hh).1, h2, h3, frozen_of_row w gb _ _ _ hh, frozen_of_row w gb _ _ _ hh⟩
theorem FLastR.blkT {B H : Nat} {w : World} {init : List StageG} {y : StageG} {gb c : Nat} {cs0 : List Value} {sv vv : Value} {scs : List Value} (h : FLastR B H w init y gb c cs0 sv vv scs) : BlkT w gb tFStage ∧ B ≤ gb := by
  rcases h.own.2 with ⟨e, _⟩ | ⟨gb', cap, cur, e, hg, hh, r⟩
  · simp at e
  · simp only [Value.slice.injEq, Option.some.injEq, Addr.mk.injEq] at e
    obtain ⟨⟨rfl, -, -⟩, -, -⟩ := e
    exact ⟨⟨_, hh⟩, hg⟩
theorem FLastR.after {B H : Nat} {w w' : World} {init : List StageG} {y : StageG} {gb c : Nat} {cs0 : List Value} {sv vv : Value} {scs : List Value} (h : FLastR B H w init y gb c cs0 sv vv scs) (hb : Below w.heap.size w w') : FLastR B H w' init y gb c cs0 sv vv scs := by
  have hT : ∀ T, KeepT T w w' := fun T => KeepT.below hb
  exact ⟨ownsRow_keep h.own (hT _), h.ini.stays (hT _) (hT _) (fun g cur _ e => hT _ g cur e) (fun g cur _ e => hT _ g cur e), ownsRow_keep h.steps (hT _), h.cells.keep (hT _) (hT _), ownsRow_keep h.vars (hT _), Nat.le_trans h.hH hb.size, h.hB⟩
/-- a variable more: the append, then its store -/
theorem FLastR.pushVar {B H : Nat} {w w2 : World} {init : List StageG} {y : StageG} {gb c : Nat} {cs0 : List Value} {sv vv vv' : Value} {scs : List Value} {x : List UInt8} (h : FLastR B H w init y gb c cs0 sv vv scs)
    (hg : w.grownBy w2 vv.ownBlock) (hown : w2.ownsRow H tText 1 vv' (y.vars.length + 1) (strs y.vars ++ [.string (S x)])) :
    FLastR B H (w2.setCell ⟨gb, init.length * 4 + 3, none⟩ vv') init ⟨y.name, y.base, y.steps, y.vars ++ [x]⟩ gb c cs0 sv vv' scs ∧ FKeepX w (w2.setCell ⟨gb, init.length * 4 + 3, none⟩ vv') ∧ Below B w (w2.setCell ⟨gb, init.length * 4 + 3, none⟩ vv') := by
  have hT : ∀ T, T ≠ tText → KeepT T w w2 := fun T hne => KeepT.grown hg h.vars (fun e => hne e.symm)
  obtain ⟨⟨cs, hbt⟩, hBg⟩ := h.blkT
  have hb2 : BlkT w2 gb tFStage := ⟨cs, hT tFStage (by decide) gb cs hbt⟩
  have hS : ∀ T, T ≠ tFStage → KeepT T w2 (w2.setCell ⟨gb, init.length * 4 + 3, none⟩ vv') := fun T hne => KeepT.setT hb2 (fun e => hne e.symm) _ _
  have hTT : ∀ T, T ≠ tText → T ≠ tFStage → KeepT T w (w2.setCell ⟨gb, init.length * 4 + 3, none⟩ vv') := fun T h1 h2 => (hT T h1).trans (hS T h2)
  have hlow : ∀ g cur, g < H → w.heap[g]? = some (Obj.cells cur tText (0, 0)) → (w2.setCell ⟨gb, init.length * 4 + 3, none⟩ vv').heap[g]? = some (Obj.cells cur tText (0, 0)) := by
    intro g cur hgH e
    refine hS tText (by decide) g cur ((hg.block g (Array.getElem?_eq_some_iff.1 e).1 ?_).trans e)
    intro e2; have := own_le h.vars g e2.symm; omega
  refine ⟨⟨?_, ?_, ownsRow_keep h.steps (hTT _ (by decide) (by decide)), h.cells.keep (hTT _ (by decide) (by decide)) (hTT _ (by decide) (by decide)), ?_, ?_, h.hB⟩, fun T h1 h2 h3 => hTT T h3 h1, ?_⟩
  · have := ownsRow_set (ownsRow_keep h.own (hT _ (by decide))) (init.length * 4 + 3) vv' (by omega)
    rwa [set_end3 _ _ _ _ _ _ _ h.ini.len] at this
  · exact h.ini.stays (hTT _ (by decide) (by decide)) (hTT _ (by decide) (by decide)) (fun g cur _ e => hTT tFStep (by decide) (by decide) g cur e) hlow
  · show World.ownsRow _ H tText 1 vv' (y.vars ++ [x]).length (strs (y.vars ++ [x]))
    rw [List.length_append, show strs (y.vars ++ [x]) = strs y.vars ++ [.string (S x)] by simp [strs]]
    exact ownsRow_keep hown (hS _ (by decide))
  · rw [World.size_setCell]; exact Nat.le_trans h.hH hg.size
  · exact Below.setCell ((Below.refl B w).grown hg (Nat.le_trans h.hB h.hH) (fun k hk => Nat.le_trans h.hB (own_le h.vars k hk))) hBg _
/-- a step more: the append, then its store -/
theorem FLastR.pushStep {B H : Nat} {w w2 : World} {init : List StageG} {y : StageG} {gb c : Nat} {cs0 : List Value} {sv vv sv' : Value} {scs : List Value} {x : StepG} {A : Option Addr} {d : Nat} (h : FLastR B H w init y gb c cs0 sv vv scs)
    (hx : FWordsR w A x.words) (hg : w.grownBy w2 sv.ownBlock) (hown : w2.ownsRow H tFStep 4 sv' (y.steps.length + 1) (scs ++ [.int .i64 (kindB x.op), .slice A x.words.length d, .int .i64 x.stage, .int .i64 x.at_])) :
    ∃ scs', FLastR B H (w2.setCell ⟨gb, init.length * 4 + 2, none⟩ sv') init ⟨y.name, y.base, y.steps ++ [x], y.vars⟩ gb c cs0 sv' vv scs' ∧ FKeepX w (w2.setCell ⟨gb, init.length * 4 + 2, none⟩ sv') ∧ Below B w (w2.setCell ⟨gb, init.length * 4 + 2, none⟩ sv') := by
  have hT : ∀ T, T ≠ tFStep → KeepT T w w2 := fun T hne => KeepT.grown hg h.steps (fun e => hne e.symm)
  obtain ⟨⟨cs, hbt⟩, hBg⟩ := h.blkT
  have hb2 : BlkT w2 gb tFStage := ⟨cs, hT tFStage (by decide) gb cs hbt⟩
  have hS : ∀ T, T ≠ tFStage → KeepT T w2 (w2.setCell ⟨gb, init.length * 4 + 2, none⟩ sv') := fun T hne => KeepT.setT hb2 (fun e => hne e.symm) _ _
  have hTT : ∀ T, T ≠ tFStep → T ≠ tFStage → KeepT T w (w2.setCell ⟨gb, init.length * 4 + 2, none⟩ sv') := fun T h1 h2 => (hT T h1).trans (hS T h2)
  have hlow : ∀ g cur, g < H → w.heap[g]? = some (Obj.cells cur tFStep (0, 0)) → (w2.setCell ⟨gb, init.length * 4 + 2, none⟩ sv').heap[g]? = some (Obj.cells cur tFStep (0, 0)) := by
    intro g cur hgH e
    refine hS tFStep (by decide) g cur ((hg.block g (Array.getElem?_eq_some_iff.1 e).1 ?_).trans e)
    intro e2; have := own_le h.steps g e2.symm; omega
  refine ⟨_, ⟨?_, ?_, ?_, (h.cells.app (c := d) hx).keep (hTT _ (by decide) (by decide)) (hTT _ (by decide) (by decide)), ownsRow_keep h.vars (hTT _ (by decide) (by decide)), ?_, h.hB⟩, fun T h1 h2 h3 => hTT T h2 h1, ?_⟩
  · have := ownsRow_set (ownsRow_keep h.own (hT _ (by decide))) (init.length * 4 + 2) sv' (by omega)
    rwa [set_end2 _ _ _ _ _ _ _ h.ini.len] at this
  · exact h.ini.stays (hTT _ (by decide) (by decide)) (hTT _ (by decide) (by decide)) hlow (fun g cur _ e => hTT tText (by decide) (by decide) g cur e)
  · show World.ownsRow _ H tFStep 4 sv' (y.steps ++ [x]).length _
    rw [List.length_append]
    exact ownsRow_keep hown (hS _ (by decide))
  · rw [World.size_setCell]; exact Nat.le_trans h.hH hg.size
  · exact Below.setCell ((Below.refl B w).grown hg (Nat.le_trans h.hB h.hH) (fun k hk => Nat.le_trans h.hB (own_le h.steps k hk))) hBg _
theorem FLastR.varsRd {B H : Nat} {w : World} {init : List StageG} {y : StageG} {gb c vc : Nat} {va : Option Addr} {cs0 : List Value} {sv : Value} {scs : List Value} (h : FLastR B H w init y gb c cs0 sv (.slice va y.vars.length vc) scs) : Rd w va (strs y.vars) := (RdT.of_own h.vars).rd
theorem FLastR.alloc {B H : Nat} {w : World} {init : List StageG} {y : StageG} {gb c : Nat} {cs0 : List Value} {sv vv : Value} {scs : List Value} (h : FLastR B H w init y gb c cs0 sv vv scs) (o : Obj) : FLastR B H (w.alloc o) init y gb c cs0 sv vv scs := h.after ((Below.refl _ _).alloc (Nat.le_refl _) o)
theorem FLastR.drew {B H : Nat} {w : World} {init : List StageG} {y : StageG} {gb c : Nat} {cs0 : List Value} {sv vv : Value} {scs : List Value} (h : FLastR B H w init y gb c cs0 sv vv scs) : FLastR B H w.drew init y gb c cs0 sv vv scs := h.after (Below.refl _ _).drew
end Go.Proofs.YtflggoddfjmljaaGreatDoor
namespace Go.Proofs.YtflggoddfjmljaaGreatDoor
open Go.RowKit

set_option maxRecDepth 100000 in
set_option maxHeartbeats 4000000 in
theorem addP_any (B gw : Nat) (l : List PieceG) (x : UInt8) (p c : Nat) (ao : Option Addr) (w : World) (h : Wd B gw w l p ao c) (hl : l.length ≤ 1000000) (ht : ∀ q ∈ l, q.text.length ≤ 1000000) :
    Calls Tryz.prog 66 #[.pointer (some ⟨gw, 0, none⟩), .int .u8 x.toNat] w fun e w' => e = .returned (.tuple #[]) ∧ (∃ ao' c', Wd B gw w' (addP l x) p ao' c') ∧ Fr (fun b => b = gw ∨ B ≤ b) w w' := by
  obtain ⟨i0, hi0, hz0, hz1, hz2⟩ := info_parts (show (Tryz.prog.info? 143).map (fun i => (i.zero, i.size, i.bytes)) = some (some (.agg #[.string ByteArray.empty, .bool false, .int .i64 0]), 3, 32) by kernel_rfl)
  obtain ⟨c1, c2, c3, c4⟩ := h.blk2.facts
  have hcv : ∀ w : World, (convert 73 9 (.slice (some ⟨w.heap.size, 0, none⟩) 1 1)).run Tryz.prog (w.alloc (.cells #[.int .u8 x.toNat] 5)).drew = .ok (.string (S [x])) (w.alloc (.cells #[.int .u8 x.toNat] 5)).drew := fun w =>
    run_convert_bytes_back (P := Tryz.prog) (w.alloc (.cells #[.int .u8 x.toNat] 5)).drew 73 9 5 ⟨w.heap.size, 0, none⟩ 1 [x] Tryz.underlying73 Tryz.underlying5 Tryz.underlying9 (fun j hj => by
      have : j = 0 := by simpa using hj
      subst this
      exact cell_one_new w _ _ 0 _ rfl)
  have hgl : gw < w.heap.size := h.blk2.lt
  have HH := Lib.hid h
  rcases List.eq_nil_or_concat l with rfl | ⟨init, q, rfl⟩
  · have Y := Lib.hid (addP_nil x)
    clear h ht
    simp only [List.length_nil] at c1
    go_enter Tryz.func66, Tryz.ntmps66
    go_wp2_with (at_builtin; refine wpList_append_own _ rfl _ _ 109 rfl B tPiece i0 (.agg #[.string ByteArray.empty, .bool false, .int .i64 0]) 3 32 Tryz.underlying109 hi0 hz0 hz1 hz2 rfl (by decide) _ _ _ rfl (HH.out.alloc _).own ⟨_, 0, none⟩ 1 1 [.string (S []), .bool false, .int .i64 0] rfl rfl (cells3_at _ _ _ _ _ _ (by simp)) (by simp [Value.oneCell']) (by unfold maxLen; omega) (by omega) (by simp; have := HH.out.hB; omega) ?_; intro v' w2 hown2 hgr2 _; obtain ⟨ao', c', rfl⟩ := ownsRow_form hown2; have PW := Lib.hid ((HH.out.alloc _).push ⟨[], false, 0⟩ hown2 hgr2); obtain ⟨e1, e2, e3, e4⟩ := ((HH.out.alloc _).kept hgr2).facts; have HF := Lib.hid ((((Fr.refl (fun b => b = gw ∨ B ≤ b) w).alloc _).grown hgr2 (fun k hk _ => .inr (own_le HH.out.own k hk))).setCell (g := gw) (fun _ => .inl rfl) 0 (.slice ao' (0 + 1) c')); clear hown2 hgr2)
    obtain ⟨gp', rfl, hgp', hBg', f1, f2, f3⟩ := PW.out.last
    obtain ⟨k1, k2, k3, k4⟩ := PW.out.blk2.facts
    have hkz := PW.out.blk2.lt
    simp only [List.length_append, List.length_cons, List.length_nil, Nat.zero_add, Nat.zero_mul] at f1 f2 f3 k1
    clear e1 e2 e3 e4
    generalize hW : w2.setCell ⟨gw, 0, none⟩ (.slice (some ⟨gp', 0, none⟩) (0 + 1) c') = wz at *
    clear hW
    go_region
    all_goals
      go_wp2
      go_end0
      refine ⟨rfl, ?_, ?_⟩
      · rw [Y.out]
        exact ⟨_, _, (((PW.out.text [x]).alloc _).drew)⟩
      · exact (((HF.out.setCell (g := gp') (fun _ => .inr hBg') _ _).alloc _).drew)
  · rw [List.concat_eq_append] at *
    obtain ⟨gp, rfl, hgp, hBg, d1, d2, d3⟩ := h.last
    clear h
    have hm1 : (init.length : Int) < (init.length : Int) + 1 := by omega
    have hm2 : (0 : Int) ≤ (init.length : Int) := by omega
    have hm3 : (init.length : Int) + 1 < (init.length : Int) + 1 + 1 := by omega
    have hlen : (init ++ [q]).length = init.length + 1 := by simp
    have hql : q.text.length ≤ 1000000 := ht q (by simp)
    rw [hlen] at c1 hl
    clear hlen
    have hq1 : q.text.length + 1 ≤ 9223372036854775807 := by omega
    clear ht hql
    cases hv : q.var
    · rw [hv] at d2
      have Y := Lib.hid (addP_run init q x hv)
      have HV := Lib.hid hv
      clear hv
      go_enter Tryz.func66, Tryz.ntmps66
      go_wp2
      go_region
      all_goals
        go_wp2
        go_end0
        refine ⟨rfl, ?_, ?_⟩
        · rw [Y.out]
          have := (((HH.out.text (q.text ++ [x])).alloc (.cells #[.int .u8 x.toNat] 5)).drew)
          rw [HV.out] at this
          exact ⟨_, _, this⟩
        · exact ((((Fr.refl (fun b => b = gw ∨ B ≤ b) w).setCell (g := gp) (fun _ => .inr hBg) _ _).alloc _).drew)
    · rw [hv] at d2
      have Y := Lib.hid (addP_var init q x hv)
      clear hv
      have hlen : (init ++ [q]).length = init.length + 1 := by simp
      have HLen := Lib.hid hlen
      clear hlen
      go_enter Tryz.func66, Tryz.ntmps66
      go_wp2_with (at_builtin; refine wpList_append_own _ rfl _ _ 109 rfl B tPiece i0 (.agg #[.string ByteArray.empty, .bool false, .int .i64 0]) 3 32 Tryz.underlying109 hi0 hz0 hz1 hz2 rfl (by decide) _ _ _ rfl ((HH.out.alloc _).ownN HLen.out) ⟨_, 0, none⟩ 1 1 [.string (S []), .bool false, .int .i64 0] rfl rfl (cells3_at _ _ _ _ _ _ (by simp)) (by simp [Value.oneCell']) (by unfold maxLen; omega) (by omega) (by simp; have := HH.out.hB; omega) ?_; intro v' w2 hown2 hgr2 _; obtain ⟨ao', c', rfl⟩ := ownsRow_form hown2; have PW := Lib.hid ((HH.out.alloc _).pushN HLen.out ⟨[], false, 0⟩ hown2 hgr2); obtain ⟨e1, e2, e3, e4⟩ := ((HH.out.alloc _).keptN HLen.out hgr2).facts; have HF := Lib.hid ((((Fr.refl (fun b => b = gw ∨ B ≤ b) w).alloc _).grown hgr2 (fun k hk _ => .inr (own_le (HH.out.ownN HLen.out) k hk))).setCell (g := gw) (fun _ => .inl rfl) 0 (.slice ao' (init.length + 1 + 1) c')); clear hown2 hgr2)
      obtain ⟨gp', rfl, hgp', hBg', f1, f2, f3⟩ := PW.out.last
      obtain ⟨k1, k2, k3, k4⟩ := PW.out.blk2.facts
      have hkz := PW.out.blk2.lt
      simp only [List.length_append, List.length_cons, List.length_nil, Nat.zero_add, Nat.zero_mul] at f1 f2 f3 k1
      clear e1 e2 e3 e4
      generalize hW : w2.setCell ⟨gw, 0, none⟩ (.slice (some ⟨gp', 0, none⟩) (init.length + 1 + 1) c') = wz at *
      clear hW
      go_region
      all_goals
        go_wp2
        go_end0
        refine ⟨rfl, ?_, ?_⟩
        · rw [Y.out]
          have := (((PW.out.text [x]).alloc (.cells #[.int .u8 x.toNat] 5)).drew)
          rw [HLen.out] at this
          exact ⟨_, _, this⟩
        · exact (((HF.out.setCell (g := gp') (fun _ => .inr hBg') _ _).alloc _).drew)
end Go.Proofs.YtflggoddfjmljaaGreatDoor
namespace Go.Proofs.YtflggoddfjmljaaGreatDoor
open Go.RowKit

/-- behind blanks and joined lines -/
def blanksB (s : List UInt8) (k : Nat) : Nat := if h : k < s.length then (if s[k] = 32 then blanksB s (k + 1) else if goesB s k = true then blanksB s (k + 2) else k) else k
termination_by s.length - k
theorem blanksB_blank {s : List UInt8} {k : Nat} (h : k < s.length) (c : s[k] = 32) : blanksB s k = blanksB s (k + 1) := by
  conv => lhs; rw [blanksB, dif_pos h, if_pos c]
theorem blanksB_goes {s : List UInt8} {k : Nat} (g : goesB s k = true) : blanksB s k = blanksB s (k + 2) := by
  obtain ⟨h1, h2, h3⟩ := goesB_lt g
  have hk : k < s.length := by omega
  rw [List.getElem?_eq_getElem hk] at h2
  have := Option.some.inj h2
  conv => lhs; rw [blanksB, dif_pos hk, if_neg (by rw [this]; decide), if_pos g]
theorem blanksB_stop {s : List UInt8} {k : Nat} (c : s[k]? ≠ some 32) (g : goesB s k = false) : blanksB s k = k := by
  rw [blanksB]
  split
  · rename_i h
    rw [if_neg (by intro e; apply c; rw [List.getElem?_eq_getElem h, e]), if_neg (by simp [g])]
  · rfl
/-- where a lexer is -/
def atOf (w : World) (g : Nat) : Nat := match w.cell? ⟨g, 1, none⟩ with | some (.int _ n) => n.toNat | _ => 0
theorem Lex.atOf {w : World} {g : Nat} {s : List UInt8} {k : Nat} (h : Lex w g s k) : atOf w g = k := by
  obtain ⟨_, c2, _, _⟩ := h.blk2.facts
  unfold Go.Proofs.YtflggoddfjmljaaGreatDoor.atOf
  rw [c2]
  simp

theorem Lex.atSet {w : World} {g : Nat} {s : List UInt8} {k : Nat} (h : Lex w g s k) (m : Nat) {v : Int} (hv : v = (m : Int)) : Go.Proofs.YtflggoddfjmljaaGreatDoor.atOf (w.setCell ⟨g, 1, none⟩ (.int .i64 v)) g = m := by
  subst hv; exact (h.set m).atOf
set_option maxRecDepth 100000 in
set_option maxHeartbeats 4000000 in
theorem blanksP_any (s : List UInt8) (g k : Nat) (w : World) (hs : s.length ≤ 2000000000) (hk : k ≤ s.length) (hx : Lex w g s k) :
    Calls Tryz.prog 50 #[.pointer (some ⟨g, 0, none⟩)] w fun e w' => e = .returned (.tuple #[]) ∧ Lex w' g s (blanksB s k) ∧ Fr (fun b => b = g) w w' := by
  have HX := Lib.hid hx
  clear hx
  go_enter Tryz.func50, Tryz.ntmps50
  go_wp2
  go_loopw [2] (fun _ wr => ∃ j : Nat, j ≤ s.length ∧ Hid (Lex wr g s j) ∧ Hid (blanksB s k = blanksB s j) ∧ Fr (fun b => b = g) w wr) (fun _ wr => s.length - atOf wr g)
  case atStart => exact ⟨k, hk, HX, rfl, Fr.refl _ _⟩
  case round =>
    obtain ⟨j, hj, HJ, HQ, hfr⟩ := hrel
    clear HX
    obtain ⟨c1, c2, c3, c4⟩ := HJ.out.blk2.facts
    have hat := Lib.hid HJ.out.atOf
    have hgl := HJ.out.lt
    have stB : ∀ h : j < s.length, stopsB s j = (s[j] == 10) := fun h => by simp [stopsB, h]
    by_cases h : j < s.length
    · have hj1 : (j : Int) < (s.length : Int) := by omega
      have hj0 : (0 : Int) ≤ (j : Int) := by omega
      by_cases h32 : s[j] = 32
      · have HS := Lib.hid (show stopsB s j = false by rw [stB h, h32]; rfl)
        have h32' : ((s[j].toNat : Int) == 32) = true := by rw [h32]; rfl
        have Y := Lib.hid (show blanksB s k = blanksB s (j + 1) by rw [HQ.out]; exact blanksB_blank h h32)
        clear HQ h32 stB
        have HE := Lib.hid (show ∀ n, Calls Tryz.prog 51 #[.pointer (some ⟨g, 0, none⟩)] (wr.drewN n) fun e w' => e = .returned (.bool false) ∧ ∃ m, w' = (wr.drewN n).drewN m from fun n => by rw [← HS.out]; exact endP_any s g j _ hs hj (HJ.out.drewN n))
        go_wp2
        go_quiet (exact Calls.quiet_of (HE.out _))
        go_wp2
        go_roundw
        case rel => exact ⟨j + 1, by omega, (HJ.out.drewN _).set (j + 1), Y, (hfr.drewN _).setCell (fun _ => rfl) _ _⟩
        case measure =>
          rw [hat.out, (HJ.out.drewN _).atSet (j + 1) (by omega)]
          omega
      · have h32' : ((s[j].toNat : Int) == 32) = false := by
          rw [beq_eq_false_iff_ne]; intro e; exact h32 (u8_eq.2 e)
        cases hg : goesB s j
        · have HG := Lib.hid hg
          have Y := Lib.hid (show blanksB s j = j from blanksB_stop (by rw [List.getElem?_eq_getElem h]; intro e; exact h32 (Option.some.inj e)) hg)
          clear h32 hg
          cases hst : stopsB s j
          all_goals
            have HS := Lib.hid hst
            clear hst stB
            first | (have HE := Lib.hid (show ∀ n, Calls Tryz.prog 51 #[.pointer (some ⟨g, 0, none⟩)] (wr.drewN n) fun e w' => e = .returned (.bool false) ∧ ∃ m, w' = (wr.drewN n).drewN m from fun n => by rw [← HS.out]; exact endP_any s g j _ hs hj (HJ.out.drewN n)); go_wp2; go_quiet (exact Calls.quiet_of (HE.out _))) | (have HE := Lib.hid (show ∀ n, Calls Tryz.prog 51 #[.pointer (some ⟨g, 0, none⟩)] (wr.drewN n) fun e w' => e = .returned (.bool true) ∧ ∃ m, w' = (wr.drewN n).drewN m from fun n => by rw [← HS.out]; exact endP_any s g j _ hs hj (HJ.out.drewN n)); go_wp2; go_quiet (exact Calls.quiet_of (HE.out _)))
            go_wp2_with (go_at_call 63; refine (joinedP_any s g j _ hs hj (HJ.out.drewN _)).mono ?_; rintro e2 w2 ⟨rfl, m2, rfl⟩; rw [HG.out])
            first | go_end0 | refine bodyPost_ret (results_none rfl _ _ _) rfl ?_
            exact ⟨rfl, by rw [HQ.out, Y.out]; exact HJ.out.drewN _, hfr.drewN _⟩
        · have HG := Lib.hid hg
          obtain ⟨g1, g2, g3⟩ := goesB_lt hg
          have HS := Lib.hid (show stopsB s j = false by
            rw [List.getElem?_eq_getElem h] at g2
            rw [stB h, Option.some.inj g2]; rfl)
          have Y := Lib.hid (show blanksB s k = blanksB s (j + 2) by rw [HQ.out]; exact blanksB_goes hg)
          clear HQ h32 hg stB g2 g3
          have HE := Lib.hid (show ∀ n, Calls Tryz.prog 51 #[.pointer (some ⟨g, 0, none⟩)] (wr.drewN n) fun e w' => e = .returned (.bool false) ∧ ∃ m, w' = (wr.drewN n).drewN m from fun n => by rw [← HS.out]; exact endP_any s g j _ hs hj (HJ.out.drewN n))
          go_wp2
          go_quiet (exact Calls.quiet_of (HE.out _))
          go_wp2_with (go_at_call 63; refine (joinedP_any s g j _ hs hj (HJ.out.drewN _)).mono ?_; rintro e2 w2 ⟨rfl, m2, rfl⟩; rw [HG.out])
          go_roundw
          case rel => exact ⟨j + 2, by omega, (HJ.out.drewN _).set (j + 2), Y, (hfr.drewN _).setCell (fun _ => rfl) _ _⟩
          case measure =>
            rw [hat.out, (HJ.out.drewN _).atSet (j + 2) (by omega)]
            omega
    · have hnone : s[j]? = none := List.getElem?_eq_none (by omega)
      have HS := Lib.hid (show stopsB s j = true by simp [stopsB, hnone])
      have HG := Lib.hid (show goesB s j = false by simp [goesB, hnone])
      have Y := Lib.hid (show blanksB s j = j from blanksB_stop (by rw [hnone]; simp) HG.out)
      clear hnone stB
      have HE := Lib.hid (show ∀ n, Calls Tryz.prog 51 #[.pointer (some ⟨g, 0, none⟩)] (wr.drewN n) fun e w' => e = .returned (.bool true) ∧ ∃ m, w' = (wr.drewN n).drewN m from fun n => by rw [← HS.out]; exact endP_any s g j _ hs hj (HJ.out.drewN n))
      go_wp2
      go_quiet (exact Calls.quiet_of (HE.out _))
      go_wp2_with (go_at_call 63; refine (joinedP_any s g j _ hs hj (HJ.out.drewN _)).mono ?_; rintro e2 w2 ⟨rfl, m2, rfl⟩; rw [HG.out])
      first | go_end0 | refine bodyPost_ret (results_none rfl _ _ _) rfl ?_
      exact ⟨rfl, by rw [HQ.out, Y.out]; exact HJ.out.drewN _, hfr.drewN _⟩
end Go.Proofs.YtflggoddfjmljaaGreatDoor
namespace Go.Proofs.YtflggoddfjmljaaGreatDoor
open Go.RowKit

/-! ### the program's pieces: the same form -/
def pieceT (p : PieceG) : List UInt8 := if p.var then [36, 123] ++ p.text ++ [125] else showsB p.text
def formP (l : List PieceG) : List UInt8 := l.flatMap pieceT
theorem formP_snoc (l : List PieceG) (q : PieceG) : formP (l ++ [q]) = formP l ++ pieceT q := by simp [formP]
theorem form_same (l : List Atm) : formP (piecesP l []) = formA l := by
  induction hn : l.length generalizing l with
  | zero => rw [List.eq_nil_of_length_eq_zero hn]; rfl
  | succ n ihn =>
    rcases List.eq_nil_or_concat l with rfl | ⟨l, x, rfl⟩
    · simp at hn
    rw [List.concat_eq_append] at hn ⊢
    have ih := ihn l (by simpa using hn)
    rw [piecesP_snoc]
    have e : formA (l ++ [x]) = formA l ++ atomT x := by simp [formA]
    rw [e, ← ih]
    cases x with
    | var n p => simp only [atomP]; rw [formP_snoc]; rfl
    | ch c =>
      simp only [atomP]
      generalize piecesP l [] = L
      rcases List.eq_nil_or_concat L with rfl | ⟨init, q, rfl⟩
      · simp [addP, formP, pieceT, showsB, atomT]
      · rw [List.concat_eq_append]
        cases hv : q.var
        · rw [addP_run init q c hv, formP_snoc, formP_snoc]
          simp [pieceT, hv, showsB, atomT]
        · rw [addP_var init q c hv, formP_snoc]
          simp [pieceT, showsB, atomT]
theorem form_pl (w : WordG) : formP w.pl = formA w.l := form_same w.l
end Go.Proofs.YtflggoddfjmljaaGreatDoor
namespace Go.Proofs.YtflggoddfjmljaaGreatDoor
open Go.RowKit

def punctL : List UInt8 := [46, 47, 95, 61, 58, 45]
theorem idx_in (l : List UInt8) (c : UInt8) (h : c ∈ l) : ∃ i : Nat, Lib.indexByte l c = (i : Int) := by
  induction l with
  | nil => cases h
  | cons x r ih =>
    by_cases e : x = c
    · exact ⟨0, by rw [Lib.indexByte, if_pos (by simpa using e)]; rfl⟩
    · have hm : c ∈ r := by
        rcases List.mem_cons.1 h with h | h
        · exact absurd h.symm e
        · exact h
      obtain ⟨i, hi⟩ := ih hm
      refine ⟨i + 1, ?_⟩
      rw [Lib.indexByte, if_neg (by simpa using e), hi, if_neg (by simp)]
      omega
theorem idx_out (l : List UInt8) (c : UInt8) (h : c ∉ l) : Lib.indexByte l c = -1 := by
  induction l with
  | nil => rfl
  | cons x r ih =>
    rw [List.mem_cons, not_or] at h
    rw [Lib.indexByte, if_neg (by simpa using fun e => h.1 e.symm), ih h.2]
    rfl
theorem punct_none (c : UInt8) (h : c ∉ punctL) (w : World) :
    Calls Tryz.prog 75 #[.string (S [46, 47, 95, 61, 58, 45]), .int .u8 c.toNat] w fun e w' => e = .returned (.int .i64 (-1)) ∧ w' = w :=
  (Tryz.strings_IndexByte (S [46, 47, 95, 61, 58, 45]) c.toNat w).mono fun e w' ⟨he, hw⟩ => ⟨by rw [he, S_data, ← idx_out punctL c h]; simp [punctL], hw⟩
theorem punct_some (c : UInt8) (h : c ∈ punctL) : ∃ i : Nat, ∀ w : World,
    Calls Tryz.prog 75 #[.string (S [46, 47, 95, 61, 58, 45]), .int .u8 c.toNat] w fun e w' => e = .returned (.int .i64 (i : Int)) ∧ w' = w := by
  obtain ⟨i, hi⟩ := idx_in punctL c h
  exact ⟨i, fun w => (Tryz.strings_IndexByte (S [46, 47, 95, 61, 58, 45]) c.toNat w).mono fun e w' ⟨he, hw⟩ => ⟨by rw [he, S_data, ← hi]; simp [punctL], hw⟩⟩
theorem plainC_punct (c : UInt8) (hn : ¬ ((97 ≤ (c.toNat : Int) ∧ (c.toNat : Int) ≤ 122) ∨ (65 ≤ (c.toNat : Int) ∧ (c.toNat : Int) ≤ 90) ∨ (48 ≤ (c.toNat : Int) ∧ (c.toNat : Int) ≤ 57))) : plainC c = decide (c ∈ punctL) := by
  rw [Bool.eq_iff_iff, plainC_iff, decide_eq_true_eq]
  simp only [punctL, List.mem_cons, List.mem_nil_iff, or_false, u8_eq]
  simp
  omega

set_option maxRecDepth 100000 in
set_option maxHeartbeats 4000000 in
theorem simpleP_any (c : UInt8) (w : World) :
    Calls Tryz.prog 73 #[.int .u8 c.toNat] w fun e w' => e = .returned (.bool (plainC c)) ∧ w' = w := by
  have hi := plainC_iff c
  by_cases hr : (97 ≤ (c.toNat : Int) ∧ (c.toNat : Int) ≤ 122) ∨ (65 ≤ (c.toNat : Int) ∧ (c.toNat : Int) ≤ 90) ∨ (48 ≤ (c.toNat : Int) ∧ (c.toNat : Int) ≤ 57)
  · have Y := Lib.hid (show plainC c = true from hi.2 (by omega))
    clear hi
    rcases hr with ⟨h1, h2⟩ | ⟨h1, h2⟩ | ⟨h1, h2⟩
    all_goals
      go_enter Tryz.func73, Tryz.ntmps73
      go_wp2
      all_goals first
        | (go_ret; exact ⟨ret_bool Y.out.symm, rfl⟩)
        | (exfalso; try simp only [Bool.not_eq_true', Bool.not_eq_false', bne_iff_ne, bne_eq_false_iff_eq, beq_iff_eq, beq_eq_false_iff_ne, decide_eq_true_eq, decide_eq_false_iff_not, ne_eq] at *; omega)
  · have hp := plainC_punct c hr
    by_cases hm : c ∈ punctL
    · have Y := Lib.hid (show plainC c = true by rw [hp]; simpa using hm)
      obtain ⟨i, hI⟩ := punct_some c hm
      have HI := Lib.hid hI
      clear hi hp hm hI
      go_enter Tryz.func73, Tryz.ntmps73
      go_wp2_with (go_at_call 75; refine (HI.out _).mono ?_; rintro e2 w2 ⟨rfl, rfl⟩)
      all_goals first
        | (go_ret; exact ⟨ret_bool Y.out.symm, rfl⟩)
        | (go_ret; exact ⟨ret_bool (by rw [Y.out]; decide), rfl⟩)
        | (go_ret; exact ⟨ret_bool (by rw [Y.out]; simp; omega), rfl⟩)
        | (exfalso; try simp only [Bool.not_eq_true', Bool.not_eq_false', bne_iff_ne, bne_eq_false_iff_eq, beq_iff_eq, beq_eq_false_iff_ne, decide_eq_true_eq, decide_eq_false_iff_not, ne_eq] at *; omega)
    · have Y := Lib.hid (show plainC c = false by rw [hp]; simpa using hm)
      have HI := Lib.hid (punct_none c hm)
      clear hi hp hm
      go_enter Tryz.func73, Tryz.ntmps73
      go_wp2_with (go_at_call 75; refine (HI.out _).mono ?_; rintro e2 w2 ⟨rfl, rfl⟩)
      all_goals first
        | (go_ret; exact ⟨ret_bool Y.out.symm, rfl⟩)
        | (go_ret; exact ⟨ret_bool (by rw [Y.out]; decide), rfl⟩)
        | (go_ret; exact ⟨ret_bool (by rw [Y.out]; simp; omega), rfl⟩)
        | (exfalso; try simp only [Bool.not_eq_true', Bool.not_eq_false', bne_iff_ne, bne_eq_false_iff_eq, beq_iff_eq, beq_eq_false_iff_ne, decide_eq_true_eq, decide_eq_false_iff_not, ne_eq] at *; omega)

theorem showsB_take {s : List UInt8} {k : Nat} (h : k < s.length) : showsB (s.take (k + 1)) = showsB (s.take k) ++ shownB s[k] := flatMap_take shownB s k h
theorem showsB_len (s : List UInt8) (k : Nat) : (showsB (s.take k)).length ≤ s.length * 2 := flatMap_take_len shownB s k 2 (fun x _ => (shownB_len x).2)
set_option maxRecDepth 100000 in
set_option maxHeartbeats 4000000 in
theorem writtenP_any (s : List UInt8) (w : World) (hs : s.length ≤ 100000) :
    Calls Tryz.prog 59 #[.string (S s)] w fun e w' => e = .returned (.string (S (quoteE (showsB s)))) ∧ Below w.heap.size w w' := by
  by_cases he : s = []
  · subst he
    go_enter Tryz.func59, Tryz.ntmps59
    go_wp2
    go_ret
    exact ⟨rfl, Below.refl _ _⟩
  · have Z := Lib.hid (show quoteE (showsB s) = showsB s by
      unfold quoteE
      rw [if_neg]
      cases s with
      | nil => exact absurd rfl he
      | cons x r =>
        intro e
        have := (shownB_len x).1
        have e2 := congrArg List.length e
        simp only [showsB, List.flatMap_cons, List.length_append, List.length_nil] at e2
        omega)
    have hne : (s == []) = false := by simpa using he
    have B0 := Lib.hid (Bld.new w.heap.size w (Nat.le_refl _))
    have hbw : Below w.heap.size w (w.alloc (.cells #[.pointer none, .slice none 0 0] tBld)) := (Below.refl _ _).alloc (Nat.le_refl _) _
    have hsz : w.heap.size + 1 ≤ (w.alloc (.cells #[.pointer none, .slice none 0 0] tBld)).heap.size := by simp
    clear he
    go_enter Tryz.func59, Tryz.ntmps59
    go_wp2
    generalize hW : w.alloc (.cells #[.pointer none, .slice none 0 0] tBld) = w1 at *
    clear hW
    rw [show (ByteArray.mk #[]) = S [] from rfl]
    go_loopw [9] (fun x wr => ∃ k : Nat, k ≤ s.length ∧ x = .int .i64 k ∧ Hid (Bld w.heap.size w.heap.size (showsB (s.take k)) wr) ∧ Below w.heap.size w wr) (fun x _ => s.length - (intOf x).toNat)
    case atStart => exact ⟨0, by omega, by go_num, B0, hbw⟩
    case round =>
      clear B0
      obtain ⟨k, hk, rfl, BI, hbel⟩ := hrel
      have HL := showsB_len s k
      by_cases hlt : k < s.length
      · have HT := Lib.hid (showsB_take hlt)
        have hkl : (k : Int) < (s.length : Int) := by omega
        cases hp : plainC s[k]
        · have HP := Lib.hid (simpleP_any s[k])
          have HT2 := Lib.hid (show showsB (s.take (k + 1)) = showsB (s.take k) ++ [92] ++ [s[k]] by rw [HT.out]; unfold shownB; rw [hp]; simp)
          have HPc := Lib.hid hp
          clear hp HT
          go_wp2_with fail
          refine (HP.out _).mono ?_
          rintro e2 w2 ⟨rfl, rfl⟩
          rw [HPc.out]
          go_wp2_with fail
          refine (writeByte_at (c := 92) (v := 92) rfl BI.out (by omega) hbel.size).mono ?_
          rintro e3 w3 ⟨rfl, h3, hb3, _⟩
          have B3 := Lib.hid h3
          have HB3 := Lib.hid (hbel.trans hb3)
          clear h3 hb3
          go_wp2_with fail
          refine (writeByte_at (c := s[k]) rfl B3.out (by rw [List.length_append]; simp; omega) HB3.out.size).mono ?_
          rintro e4 w4 ⟨rfl, h4, hb4, _⟩
          have B4 := Lib.hid h4
          have HB4 := Lib.hid (HB3.out.trans hb4)
          clear h4 hb4
          go_wp2
          go_roundw
          case rel => exact ⟨k + 1, by omega, by go_num, by rw [HT2.out]; exact B4, HB4.out⟩
          case measure => simp [intOf]; omega
        · have HP := Lib.hid (simpleP_any s[k])
          have HT2 := Lib.hid (show showsB (s.take (k + 1)) = showsB (s.take k) ++ [s[k]] by rw [HT.out]; unfold shownB; rw [hp]; simp)
          have HPc := Lib.hid hp
          clear hp HT
          go_wp2_with fail
          refine (HP.out _).mono ?_
          rintro e2 w2 ⟨rfl, rfl⟩
          rw [HPc.out]
          go_wp2_with fail
          refine (writeByte_at (c := s[k]) rfl BI.out (by omega) hbel.size).mono ?_
          rintro e4 w4 ⟨rfl, h4, hb4, _⟩
          have B4 := Lib.hid h4
          have HB4 := Lib.hid (hbel.trans hb4)
          clear h4 hb4
          go_wp2
          go_roundw
          case rel => exact ⟨k + 1, by omega, by go_num, by rw [HT2.out]; exact B4, HB4.out⟩
          case measure => simp [intOf]; omega
      · have hke : k = s.length := by omega
        have HQ := Lib.hid (show showsB (s.take k) = showsB s by rw [hke, List.take_length])
        clear hke
        go_wp2_with fail
        refine (bldString_any BI.out hbel.size).mono ?_
        rintro e5 w5 ⟨rfl, hb5⟩
        rw [HQ.out]
        go_wp2
        go_ret
        exact ⟨ret_str Z.out.symm, hbel.trans hb5⟩
end Go.Proofs.YtflggoddfjmljaaGreatDoor
