import Derived.Test.YtikdblkfjchjbaaGreatDoorY36
import Derived.Test.YtikdblkfjchjbaaGreatDoorY39
set_option linter.unusedVariables false
set_option linter.unusedSimpArgs false
set_option maxHeartbeats 16000000
set_option maxRecDepth 100000
namespace Go.Proofs.YtikdblkfjchjbaaGreatDoor
open Go.RowKit
def qyr (x : StepG) : Bool := decide (x.stage = -1) && (qbs x.op).isSome && decide (x.op.length ≤ 100) && x.words.all (fun y => y.pl.all (fun p => !p.var) && decide ((setP y.pl).length ≤ 1000) && decide (y.pl.length ≤ 1000)) && decide (x.words.length ≤ 4)
theorem qpy {x : StepG} (h : qyr x = true) : FlatS x := by
 unfold qyr at h;simp only [Bool.and_eq_true, decide_eq_true_eq, List.all_eq_true, Bool.not_eq_true'] at h;obtain ⟨⟨⟨⟨h1, h2⟩, h3⟩, h4⟩, h5⟩ := h;exact ⟨h1, (fun e => by rw [e] at h2; cases h2), h3, fun y hy => (h4 y hy).1.1, h5, fun y hy => ⟨(h4 y hy).1.2, (h4 y hy).2⟩⟩
def q18 (c l : List Ent) (wk x y : List UInt8) : Bool := match wayL [] x, wayL wk y with
 | .ok p, .ok tp => if qbc c p = 1 then (match qgg l tp with | .error _ => true | .ok _ => false) else true
 | _, _ => true
def q19 (c l : List Ent) (wk x y : List UInt8) : Bool := match wayL [] x, wayL wk y with
 | .ok p, .ok tp => if qbc c p = 1 then (match qgg l tp with | .error _ => false | .ok l1 => match qcy l1 tp (subL c p) with | .ok _ => true | .error _ => false) else false
 | _, _ => false
def rmB (l : List Ent) (wk x : List UInt8) : Bool := match wayL wk x with
 | .ok p => decide (p ≠ []) && (qf4 l p).isNone
 | .error _ => false
def q3y (c l : List Ent) (wk : List UInt8) (k : Int) (a : List UInt8) : Option (Except Int (List Ent × List UInt8)) :=
 if k = 3 then (if rmB l wk a = true then some (.error 8) else none) else if k = 4 then some (mkE l wk a) else if k = 7 then some (qwb l wk a) else none
def q3x (c l : List Ent) (wk : List UInt8) (k : Int) (a b : List UInt8) : Option (Except Int (List Ent × List UInt8)) :=
 if k = 1 then (if q18 c l wk a b = true then some (qn4 c l wk a b) else if q19 c l wk a b = true then some (qn4 c l wk a b) else none)
 else if k = 2 then (if c.all (fun e => decide (e.data.length < 512)) = true then some (.error (qi9 c wk a b)) else none) else none
def q2m (c l : List Ent) (wk : List UInt8) (k : Int) : List (List UInt8) → Option (Except Int (List Ent × List UInt8))
 | [a] => if a.length ≤ 180 then q3y c l wk k a else none
 | [a, b] => if a.length ≤ 180 ∧ b.length ≤ 180 then q3x c l wk k a b else none
 | _ => none
theorem qsw {c : List Ent} (hc : c.length ≤ 1000) {x : StepG} {l : List Ent} {wk : List UInt8} {R : Except Int (List Ent × List UInt8)} (h : q2m c l wk (qdq x.op) (qdx x.words) = some R) : DoOk c x l wk R := by
 intro w0 w n t g mb tc D A cap ws sg xa hM hS hn hC hA;generalize qdx x.words = W at h hA ⊢;generalize qdq x.op = k at h ⊢;unfold q2m at h;split at h
 ·next a =>
  split at h
  ·next ha =>
   have hW : ∀ y ∈ [a], y.length ≤ 180 := fun y hy => by rw [List.mem_singleton.1 hy]; exact ha
   unfold q3y at h;split at h
   ·next hk =>
    subst hk;split at h
    ·next hr =>
     cases h;unfold rmB at hr;split at hr
     ·next p hp =>
      simp only [Bool.and_eq_true, decide_eq_true_eq, Option.isNone_iff_eq_none] at hr;refine (q4v hM hS [a] (by simp) hW A cap hA ws sg xa _ a p rfl hp hr.1 hr.2).mono ?_;rintro e w' ⟨rfl, hb, hd⟩;exact ⟨rfl, hb, hd⟩
     ·cases hr
    ·cases h
   ·split at h
    ·next hk => subst hk; cases h; exact q1c hM hS hn [a] (by simp) hW A cap hA ws sg xa _ a rfl
    ·split at h
     ·next hk => subst hk; cases h; exact qvt hM hS hn [a] (by simp) hW A cap hA ws sg xa _ a rfl
     ·cases h
  ·cases h
 ·next a b =>
  split at h
  ·next hab =>
   have hW : ∀ y ∈ [a, b], y.length ≤ 180 := fun y hy => by
    rcases List.mem_cons.1 hy with rfl | hy
    ·exact hab.1
    ·rw [List.mem_singleton.1 hy]; exact hab.2
   unfold q3x at h;split at h
   ·next hk =>
    subst hk;split at h
    ·next hf =>
     cases h;refine q1d hM hS hn [a, b] (by simp) hW A cap hA ws sg xa a b rfl c tc hC fun p tp h1 h2 h3 => ?_
     unfold q18 at hf;rw [h1, h2] at hf;simp only [h3, if_true] at hf;split at hf
     ·next k hk => exact ⟨k, hk⟩
     ·cases hf
    ·split at h
     ·next hf =>
      cases h;unfold q19 at hf;split at hf
      ·next p tp h1 h2 =>
       split at hf
       ·next h3 =>
        split at hf
        ·cases hf
        ·next l1 h4 =>
         split at hf
         ·next l2 h5 => exact q1e hM hS hn [a, b] (by simp) hW A cap hA ws sg xa a b rfl c tc hC hc p tp l1 l2 h1 h2 h3 h4 h5
         ·cases hf
       ·cases hf
      ·cases hf
     ·cases h
   ·split at h
    ·next hk =>
     subst hk;split at h
     ·next hf =>
      cases h;exact q4a hM hS hn [a, b] (by simp) hW A cap hA ws sg xa a b rfl c tc hC (by simpa using hf)
     ·cases h
    ·cases h
  ·cases h
 ·cases h
def runR (c : List Ent) : List StepG → List Ent → List UInt8 → Option (Except (Int × Nat) (List Ent × List UInt8))
 | [], l, wk => some (.ok (l, wk))
 | x :: r, l, wk => match q2m c l wk (qdq x.op) (qdx x.words) with
  | some (.ok q) => runR c r q.1 q.2
  | some (.error k) => if k = 0 then none else some (.error (k, x.at_))
  | none => none
theorem qw5 {c : List Ent} (hc : c.length ≤ 1000) : ∀ {st : List StepG} {l : List Ent} {wk : List UInt8} {R : Except (Int × Nat) (List Ent × List UInt8)}, runR c st l wk = some R → MakeRun c st l wk R
 | [], l, wk, R, h => by cases h; exact .nil l wk
 | x :: r, l, wk, R, h => by
  rw [runR] at h;split at h
  ·next q hq => exact .ok x r l q.1 wk q.2 R (qsw hc hq) (qw5 hc h)
  ·next k hk =>
   split at h
   ·cases h
   ·next hk0 => cases h; exact .err x r l wk k hk0 (qsw hc hk)
  ·cases h
theorem qu2 {st : List StageG} {m : Nat} {x : StageG} (hm : st.length = m + 1) (hx : st[m]? = some x) (hb : x.base = -1) (hs : ∀ y ∈ x.steps, y.stage = -1) : qjj st = [m] := by
 obtain ⟨hml, hxe⟩ := List.getElem?_eq_some_iff.1 hx;have hr : ∀ i, Reach st i ↔ i = m := by
  intro i;constructor
  ·intro h
   induction h with
   | last _ => omega
   | @step i k hi h1 hk hw ih =>
    subst ih;exfalso
    rw [hxe] at hw;unfold qjw at hw;rw [Bool.or_eq_true, List.any_eq_true, hb] at hw;rcases hw with ⟨y, hy, hw⟩ | hw
    ·rw [hs y hy] at hw; have := eq_of_beq hw; omega
    ·have := eq_of_beq hw; omega
  ·rintro rfl
   have := Reach.last (st := st) (by intro e; rw [e] at hm; cases hm);rwa [show st.length - 1 = i by omega] at this
 unfold qjj;rw [hm, List.range_succ, List.filter_append];have h1 : ∀ p : Nat → Bool, (∀ i, i < m → p i = false) → (List.range m).filter p = [] := fun p h => List.filter_eq_nil_iff.2 fun i hi => by rw [h i (List.mem_range.1 hi)]; decide
 rw [h1 _ (fun i hi => by rw [decide_eq_false_iff_not, hr]; omega)];simp [hr]
def qx7 (s : List UInt8) (c : List Ent) : Option (Except (Int × Nat) (List Ent × List UInt8)) := match qbk s with
 | .error q => some (.error ((q.1 : Int), q.2))
 | .ok st => match st[st.length - 1]? with
  | none => none
  | some x => if st ≠ [] ∧ x.base = -1 ∧ x.steps.all qyr = true ∧ x.steps.length ≤ 1000 then runR c x.steps [] [] else none
theorem qx6 {s : List UInt8} {c : List Ent} (hc : c.length ≤ 1000) {R : Except (Int × Nat) (List Ent × List UInt8)} (h : qx7 s c = some R) : MakesL s c R := by
 unfold qx7 at h;cases hp : qbk s with
 | error q =>
  rw [hp] at h;cases h;refine ⟨fun f p e => ?_, fun st e => ?_⟩
  ·rw [hp] at e; cases e; rfl
  ·rw [hp] at e; cases e
 | ok st =>
  rw [hp] at h;refine ⟨fun f p e => ?_, fun st' e => ?_⟩
  ·rw [hp] at e; cases e
  ·rw [hp] at e; cases e
   dsimp only at h;split at h
   ·cases h
   ·next x hx =>
    split at h
    ·next hh =>
     obtain ⟨h0, h2, h3, h4⟩ := hh;have hl : 0 < st.length := List.length_pos_iff.2 h0;exact ⟨st.length - 1, x, by omega, qu2 (by omega) hx h2 (fun y hy => (qpy (List.all_eq_true.1 h3 y hy)).stage), hx, h2, fun y hy => qpy (List.all_eq_true.1 h3 y hy), h4, qw5 hc h⟩
    ·cases h
def ctxK : List Ent := [⟨[115, 114, 99], 1, 493, []⟩, ⟨[115, 114, 99, 47, 109, 97, 105, 110], 2, 420, [104, 105]⟩]
def qlh : List Ent := [⟨[115, 114, 99], 3, 0, [47, 120]⟩]
def chgK : List Ent := [⟨[115, 114, 99], 5, 0, []⟩, ⟨[115, 114, 99, 47, 97], 1, 1, []⟩]
def qh7 : List Ent := [⟨[97], 4, 0, []⟩]
def outK : List Ent := [⟨[97, 112, 112], 1, 493, []⟩, ⟨[97, 112, 112, 47, 109, 97, 105, 110], 2, 420, [104, 105]⟩]
def oneK : List UInt8 := [70, 82, 79, 77, 32, 115, 99, 114, 97, 116, 99, 104, 32, 92, 10, 32, 65, 83, 32, 111, 110, 101, 10, 10, 32, 35, 32, 110, 111, 10, 69, 78, 86, 32, 65, 32, 34, 120, 32, 121, 34, 10, 77, 75, 68, 73, 82, 32, 97, 36, 65, 34, 36, 65, 34, 39, 10]
def q28 : List UInt8 := [70, 82, 79, 77, 32, 115, 99, 114, 97, 116, 99, 104, 32, 65, 83, 32, 111, 110, 101, 10, 69, 78, 86, 32, 65, 32, 120, 92, 32, 121, 10, 77, 75, 68, 73, 82, 32, 97, 36, 123, 65, 125, 36, 123, 65, 125, 92, 39, 10]
def txK : Nat → List UInt8
 | 0 => [70, 82, 79, 77, 32, 115, 99, 114, 97, 116, 99, 104, 10, 67, 79, 80, 89, 32, 115, 114, 99, 32, 47, 97, 112, 112, 10]
 | 1 => [70, 82, 79, 77, 32, 98, 97, 115, 101, 10]
 | 2 => [70, 82, 79, 77, 32, 115, 99, 114, 97, 116, 99, 104, 10, 82, 77, 32, 120, 10]
 | 3 => [70, 82, 79, 77, 32, 115, 99, 114, 97, 116, 99, 104, 10, 77, 75, 68, 73, 82, 32, 36, 65, 10]
 | 4 => [77, 75, 68, 73, 82, 32, 97, 10]
 | 5 => [70, 82, 79, 77, 32, 115, 99, 114, 97, 116, 99, 104, 10, 67, 79, 80, 89, 32, 115, 114, 99, 47, 109, 97, 105, 110, 32, 97, 10, 77, 75, 68, 73, 82, 32, 97, 47, 98, 10]
 | 6 => [70, 82, 79, 77, 32, 115, 99, 114, 97, 116, 99, 104, 32, 65, 83, 32, 97, 10, 82, 77, 32, 120, 10, 70, 82, 79, 77, 32, 115, 99, 114, 97, 116, 99, 104, 10, 77, 75, 68, 73, 82, 32, 121, 10]
 | 7 => [70, 82, 79, 77, 32, 115, 99, 114, 97, 116, 99, 104, 10, 87, 79, 82, 75, 68, 73, 82, 32, 47, 97, 47, 98, 10, 77, 75, 68, 73, 82, 32, 46, 46, 47, 46, 46, 47, 46, 46, 47, 99, 10]
 | 8 => [70, 82, 79, 77, 32, 115, 99, 114, 97, 116, 99, 104, 10, 65, 68, 68, 32, 115, 114, 99, 47, 109, 97, 105, 110, 32, 47, 10]
 | _ => [70, 82, 79, 77, 32, 115, 99, 114, 97, 116, 99, 104, 10, 77, 75, 68, 73, 82, 32, 34, 97, 10]
def erK : Nat → Int
 | 0 => 0
 | 1 => 6
 | 2 => 8
 | 3 => 7
 | 4 => 5
 | 5 => 9
 | 6 => 0
 | 7 => 1
 | 8 => 4
 | _ => 5
def plK : Nat → Int
 | 0 => -1
 | 1 => 5
 | 2 => 13
 | 3 => 19
 | 4 => 0
 | 5 => 29
 | 6 => -1
 | 7 => 26
 | 8 => 13
 | _ => 19
def rK : Nat → Except (Int × Nat) (List Ent × List UInt8)
 | 0 => .ok (outK, [])
 | 6 => .ok ([⟨[121], 1, 493, []⟩], [])
 | k => .error (erK k, (plK k).toNat)
theorem q4q : ∀ k, k < 10 → qx7 (txK k) ctxK = some (rK k)
 | 0, _ => by kernel_rfl
 | 1, _ => by kernel_rfl
 | 2, _ => by kernel_rfl
 | 3, _ => by kernel_rfl
 | 4, _ => by kernel_rfl
 | 5, _ => by kernel_rfl
 | 6, _ => by kernel_rfl
 | 7, _ => by kernel_rfl
 | 8, _ => by kernel_rfl
 | 9, _ => by kernel_rfl
 | k + 10, h => by omega
theorem q35 (k : Nat) (h : k < 10) : MakesL (txK k) ctxK (rK k) := qx6 (by decide) (q4q k h)
theorem qhs : ∀ j, j < ctxK.length → qcb ctxK j = false := by decide +kernel
theorem qrr : ∀ j, j < qlh.length → qcb qlh j = false := by decide +kernel
theorem qv1 : ∀ j, j < chgK.length → barR chgK j = false := by decide +kernel
theorem qr2 : ∀ j, j < qh7.length → barR qh7 j = false := by decide +kernel
theorem qve : ∀ j, j < qh7.length → barP qh7 j = false := by decide +kernel
theorem difK : (qi1 ctxK qlh).length = 1 := by kernel_rfl
theorem patK : qee ctxK chgK = ([⟨[115, 114, 99], 1, 493, []⟩, ⟨[115, 114, 99, 47, 97], 1, 1, []⟩], 0, -1) := by kernel_rfl
theorem qxm : (qnw qh7).length = 1536 := by kernel_rfl
theorem quy : (qnw qh7).take 5 = [46, 119, 104, 46, 97] := by kernel_rfl
theorem q30 : ∃ st, qbk oneK = .ok st ∧ qwk st = q28 := ⟨(match qbk oneK with | .ok st => st | .error _ => []), by kernel_rfl, by kernel_rfl⟩
end Go.Proofs.YtikdblkfjchjbaaGreatDoor
