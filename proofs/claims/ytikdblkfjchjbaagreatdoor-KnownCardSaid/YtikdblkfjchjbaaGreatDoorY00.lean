import Derived.Test.YtikdblkfjchjbaaGreatDoorProg
import Derived.WalkSpells
import Derived.WalkLawsBesides
import Derived.Lib.Hide
import Derived.Lib.Strings
set_option linter.unusedVariables false
set_option linter.unusedSimpArgs false
set_option maxHeartbeats 16000000
set_option maxRecDepth 100000
namespace Go.Proofs.YtikdblkfjchjbaaGreatDoor
open Go.RowKit
theorem q4z {p : Prop} (h : p) : Hid p := Lib.hid h
theorem q40 (w : World) (a : Addr) {v : Value} (h : w.cell? a = some v) : a.block < w.heap.size := World.block_lt_of_cell? w a h
theorem q41 {α : Type} {xs : Array α} {i : Nat} {b : α} (h : xs[i]? = some b) : ∃ h : i < xs.size, xs[i] = b := Array.getElem?_eq_some_iff.1 h
def S (l : List UInt8) : ByteArray := ⟨l.toArray⟩
theorem qea (l : List UInt8) : (S l).size = l.length := by simp [S, ByteArray.size]
theorem qkp (l : List UInt8) : (S l).toList = l := by rw [Lib.toList_data]; simp [S]
theorem qdh (l : List UInt8) : (S l).data.toList = l := by simp [S]
theorem S_of (s : ByteArray) : S s.data.toList = s := by apply ByteArray.ext; simp [S]
theorem S_mk (l : List UInt8) : (⟨l.toArray⟩ : ByteArray) = S l := rfl
theorem q4l (l : List UInt8) (k : Nat) (h : k < (S l).size) : (S l)[k] = l[k]'(by simpa [qea] using h) := by simp [S, ByteArray.getElem_eq_getElem_data]
theorem qzh {l m : List UInt8} (h : S l = S m) : l = m := by rw [← qkp l, h, qkp]
theorem qtq (l m : List UInt8) : S l ++ S m = S (l ++ m) := by
 apply ByteArray.ext; simp [S, ByteArray.data_append]
theorem qqn (l : List UInt8) (a b : Nat) : (S l).extract a b = S ((l.drop a).take (b - a)) := by
 apply ByteArray.ext;simp [S, ByteArray.data_extract, List.extract_toArray]
theorem qok (l : List UInt8) (a : Nat) : List.take (l.length - a) (List.drop a l) = List.drop a l := List.take_of_length_le (by simp)
attribute [go_sem] qok
attribute [simp] qok
attribute [go_sem] S_mk qea qkp q4l qtq qqn
attribute [simp] S_mk qea qkp q4l qtq qqn
theorem qau {a b : Bool} (h : a = b) : Ending.returned (.bool a) = .returned (.bool b) := by rw [h]
theorem qcv {a b : List UInt8} (h : a = b) : Ending.returned (.string (S a)) = .returned (.string (S b)) := by rw [h]
theorem qc7 {k : IntKind} {a b : Int} (h : a = b) : Ending.returned (.int k a) = .returned (.int k b) := by rw [h]
theorem qop {a b : List UInt8} (h : a = b) : Value.string (S a) = .string (S b) := by rw [h]
theorem q16 {k : IntKind} {a b : Int} (h : a = b) : Value.int k a = .int k b := by rw [h]
theorem qjs {a b : Bool} (h : a = b) : Value.bool a = .bool b := by rw [h]
def Rd (w : World) (A : Option Addr) (cs : List Value) : Prop :=
 cs = [] ∨ ∃ b o, A = some ⟨b, o, none⟩ ∧ ∀ (i : Nat) (u : Value), cs[i]? = some u → w.cell? ⟨b, o + i, none⟩ = some u
theorem Rd.at {w : World} {A : Option Addr} {cs : List Value} (h : Rd w A cs) (i : Nat) (hi : i < cs.length) :
 ∃ b o, A = some ⟨b, o, none⟩ ∧ b < w.heap.size ∧ ∀ (j : Nat) (u : Value), cs[j]? = some u → w.cell? ⟨b, o + j, none⟩ = some u := by
 rcases h with rfl | ⟨b, o, rfl, hc⟩
 ·simp at hi
 ·exact ⟨b, o, rfl, q40 w _ (hc i _ (List.getElem?_eq_getElem hi)), hc⟩
theorem Rd.below {w w' : World} {A : Option Addr} {cs : List Value} (h : Rd w A cs) (hb : Below w.heap.size w w') : Rd w' A cs := by
 rcases h with rfl | ⟨b, o, rfl, hc⟩
 ·exact .inl rfl
 ·refine .inr ⟨b, o, rfl, fun i u hu => ?_⟩
  rw [hb.cell (q40 w _ (hc i u hu))];exact hc i u hu
theorem Rd.of_own {w : World} {base : Nat} {e : TypeId} {size : Nat} {v : Value} {n : Nat} {xs : List Value} (h : w.ownsRow base e size v n xs) :
 ∃ A cap, v = .slice A n cap ∧ n ≤ cap ∧ cap ≤ maxLen ∧ Rd w A xs := by
 have h0 := h;obtain ⟨h1, h2⟩ := h;rcases h2 with ⟨rfl, rfl⟩ | ⟨g, cap, cur, rfl, hg, hh, hn, hm, r1, r2⟩
 ·refine ⟨none, 0, rfl, Nat.le_refl _, Nat.zero_le _, .inl ?_⟩
  simpa using h1
 ·refine ⟨_, _, rfl, hn, hm, .inr ⟨g, 0, rfl, fun i u hu => ?_⟩⟩
  have := h0.cellAt i (by rw [← h1]; exact (List.getElem?_eq_some_iff.1 hu).1);simpa [this] using hu
def strs (l : List (List UInt8)) : List Value := l.map fun x => .string (S x)
theorem qb2 (l : List (List UInt8)) : (strs l).length = l.length := by simp [strs]
theorem qcg {l : List (List UInt8)} {i : Nat} (h : i < l.length) : (strs l)[i]? = some (.string (S l[i])) := by simp [strs, h]
theorem ql4 (w : World) (a : Value) (t : TypeId) : ∀ j u, [a][j]? = some u → (w.alloc (.cells #[a] t)).cell? ((⟨w.heap.size, 0, none⟩ : Addr).add j) = some u := by
 intro j u h;match j, h with
 | 0, h => simp at h; subst h; simp [Addr.add]
def qg8 (c : UInt8) : Bool := (97 ≤ c && c ≤ 122) || (65 ≤ c && c ≤ 90) || (48 ≤ c && c ≤ 57) || c == 46 || c == 95 || c == 45
theorem qvz (c : UInt8) : qg8 c = true ↔ ((97 ≤ (c.toNat : Int) ∧ (c.toNat : Int) ≤ 122) ∨ (65 ≤ (c.toNat : Int) ∧ (c.toNat : Int) ≤ 90) ∨ (48 ≤ (c.toNat : Int) ∧ (c.toNat : Int) ≤ 57) ∨ (c.toNat : Int) = 46 ∨ (c.toNat : Int) = 95 ∨ (c.toNat : Int) = 45) := by
 simp only [qg8, Bool.or_eq_true, Bool.and_eq_true, decide_eq_true_eq, beq_iff_eq, UInt8.le_iff_toNat_le, ← UInt8.toNat_inj];simp
 omega
theorem q3r (c : UInt8) : (c.toNat : Int) < 256 := by have := c.toNat_lt; omega
theorem qzt {c d : UInt8} : c = d ↔ (c.toNat : Int) = (d.toNat : Int) := by rw [← UInt8.toNat_inj]; omega
theorem qko {α : Type} (p : α → Bool) (s : List α) (k : Nat) (h : k < s.length) : (s.take (k + 1)).all p = ((s.take k).all p && p s[k]) := by
 rw [List.take_succ_eq_append_getElem h, List.all_append]; simp
def qa5 (s : List UInt8) : Bool := !s.isEmpty && decide (s.length ≤ 60) && !(s == [46]) && !(s == [46, 46]) && !([46, 119, 104, 46].isPrefixOf s) && s.all qg8
def cutB (c : UInt8) : List UInt8 → List (List UInt8)
 | [] => [[]]
 | x :: r => if x = c then [] :: cutB c r else match cutB c r with
  | [] => [[x]]
  | h :: t => (x :: h) :: t
theorem qic (c : UInt8) (s : List UInt8) : cutB c s ≠ [] := by
 cases s with
 | nil => simp [cutB]
 | cons x r =>
  rw [cutB];split
  ·simp
  ·split <;> simp
theorem qtf (c : UInt8) (s : List UInt8) : (cutB c s).length ≤ s.length + 1 := by
 induction s with
 | nil => simp [cutB]
 | cons x r ih =>
  rw [cutB];split
  ·simp; exact ih
  ·split
   ·simp
   ·rename_i h t e
    rw [e] at ih; simp at ih ⊢; omega
theorem qvw (c : UInt8) (p r : List UInt8) (h : c ∉ p) : cutB c (p ++ c :: r) = p :: cutB c r := by
 induction p with
 | nil => simp [cutB]
 | cons x p ih =>
  have hx : x ≠ c := fun e => h (e ▸ List.mem_cons_self)
  rw [List.cons_append, cutB, if_neg hx, ih (fun e => h (List.mem_cons_of_mem _ e))]
theorem qly (c : UInt8) (p : List UInt8) (h : c ∉ p) : cutB c p = [p] := by
 induction p with
 | nil => simp [cutB]
 | cons x p ih =>
  have hx : x ≠ c := fun e => h (e ▸ List.mem_cons_self)
  rw [cutB, if_neg hx, ih (fun e => h (List.mem_cons_of_mem _ e))]
def qae : List (List UInt8) → List UInt8
 | [] => []
 | [x] => x
 | x :: y :: r => x ++ 47 :: qae (y :: r)
theorem qho (l : List (List UInt8)) (x : List UInt8) (h : l ≠ []) : qae (l ++ [x]) = qae l ++ 47 :: x := by
 induction l with
 | nil => exact absurd rfl h
 | cons a l ih =>
  cases l with
  | nil => simp [qae]
  | cons b r =>
   have := ih (by simp);simp only [List.cons_append, qae] at this ⊢;rw [this]; simp
theorem qm5 (l : List (List UInt8)) (k : Nat) (h : k < l.length) : qae (l.take (k + 1)) = if k = 0 then l[k] else qae (l.take k) ++ 47 :: l[k] := by
 rw [List.take_succ_eq_append_getElem h];split
 ·rename_i h0; subst h0; simp [qae]
 ·rename_i h0
  exact qho _ _ (by intro e; have := congrArg List.length e; rw [List.length_take, List.length_nil] at this; omega)
def qbr : List (List UInt8) → Nat
 | [] => 0
 | x :: r => x.length + 1 + qbr r
theorem qez (l m : List (List UInt8)) : qbr (l ++ m) = qbr l + qbr m := by
 induction l with
 | nil => simp [qbr]
 | cons a l ih => simp only [List.cons_append, qbr, ih]; omega
theorem qln (l : List (List UInt8)) : (qae l).length ≤ qbr l := by
 induction l with
 | nil => simp [qae, qbr]
 | cons a l ih =>
  cases l with
  | nil => simp [qae, qbr]
  | cons b r => simp only [qae, qbr, List.length_append, List.length_cons] at ih ⊢; omega
theorem qjo (l : List (List UInt8)) (k : Nat) : qbr (l.take k) ≤ qbr l := by
 have := qez (l.take k) (l.drop k);rw [List.take_append_drop] at this; omega
theorem qiu (l : List (List UInt8)) (k : Nat) (h : k < l.length) : qbr (l.take k) + l[k].length + 1 ≤ qbr l := by
 have := qjo l (k + 1);rw [List.take_succ_eq_append_getElem h, qez] at this;simp only [qbr] at this ⊢; omega
theorem qiv (c : UInt8) (s : List UInt8) : qbr (cutB c s) ≤ s.length + 1 := by
 induction s with
 | nil => simp [cutB, qbr]
 | cons x r ih =>
  rw [cutB];split
  ·simp [qbr] at ih ⊢; omega
  ·split
   ·simp [qbr]
   ·rename_i h t e
    rw [e] at ih; simp [qbr] at ih ⊢; omega
def qaa (p : List UInt8) : List (List UInt8) := if p = [] then [] else cutB 47 p
theorem qhj (p : List UInt8) : (qaa p).length ≤ p.length + 1 := by
 unfold qaa; split
 ·simp
 ·exact qtf _ _
def qa3 (p : List UInt8) : Bool := decide (p.length ≤ 170) && decide ((qaa p).length ≤ 12) && (qaa p).all qa5
def qeb : List (List UInt8) → List (List UInt8) → Option (List (List UInt8))
 | out, [] => some out
 | out, e :: r => if e = [] ∨ e = [46] then qeb out r else if e = [46, 46] then (if out = [] then none else qeb out.dropLast r)
  else if qa5 e = true then qeb (out ++ [e]) r else none
theorem qje (out r : List (List UInt8)) (e : List UInt8) (h : e = [] ∨ e = [46]) : qeb out (e :: r) = qeb out r := by rw [qeb, if_pos h]
theorem qw9 (r : List (List UInt8)) : qeb [] ([46, 46] :: r) = none := by rw [qeb, if_neg (by simp), if_pos rfl, if_pos rfl]
theorem qz6 (out r : List (List UInt8)) (h : out ≠ []) : qeb out ([46, 46] :: r) = qeb out.dropLast r := by rw [qeb, if_neg (by simp), if_pos rfl, if_neg h]
theorem qz8 (out r : List (List UInt8)) (e : List UInt8) (h0 : e ≠ []) (h1 : e ≠ [46]) (h2 : e ≠ [46, 46]) (h3 : qa5 e = true) : qeb out (e :: r) = qeb (out ++ [e]) r := by
 rw [qeb, if_neg (by simp [h0, h1]), if_neg h2, if_pos h3]
theorem qz7 (out r : List (List UInt8)) (e : List UInt8) (h0 : e ≠ []) (h1 : e ≠ [46]) (h2 : e ≠ [46, 46]) (h3 : qa5 e = false) : qeb out (e :: r) = none := by
 rw [qeb, if_neg (by simp [h0, h1]), if_neg h2, if_neg (by simp [h3])]
def allR (work text : List UInt8) : List (List UInt8) := if text.head? = some 47 then cutB 47 text else qaa work ++ cutB 47 text
def allP (work text : List UInt8) : List (List UInt8) := if text.head? = some 47 then cutB 47 text else cutB 47 work ++ cutB 47 text
theorem qxa (work text : List UInt8) : qeb [] (allP work text) = qeb [] (allR work text) := by
 unfold allP allR qaa;split
 ·rfl
 ·split
  ·rename_i h; subst h; rw [cutB]; exact qje _ _ _ (.inl rfl)
  ·rfl
def resB (work text : List UInt8) : Option (List (List UInt8)) := qeb [] (allR work text)
theorem qyb (work text : List UInt8) : qbr (allR work text) ≤ work.length + text.length + 2 ∧ qbr (allP work text) ≤ work.length + text.length + 2 := by
 have h1 := qiv 47 work;have h2 := qiv 47 text;have h3 : qbr (qaa work) ≤ work.length + 1 := by unfold qaa; split <;> simp_all [qbr]
 unfold allR allP;constructor <;> split <;> (try rw [qez]) <;> omega
theorem qiw (l : List (List UInt8)) : l.length ≤ qbr l := by
 induction l with
 | nil => simp [qbr]
 | cons a l ih => simp only [qbr, List.length_cons]; omega
theorem qu9 (l : List (List UInt8)) : qbr l.dropLast ≤ qbr l := by
 rw [List.dropLast_eq_take]; exact qjo _ _
theorem qyu {α : Type} (l : List α) (k : Nat) (h : k < l.length) : l.drop k = l[k] :: l.drop (k + 1) := List.drop_eq_getElem_cons h
theorem qex {α : Type} (l : List α) : l = [] ∨ ∃ a b, l = a ++ [b] := by
 rcases List.eq_nil_or_concat l with h | ⟨a, b, h⟩
 ·exact .inl h
 ·exact .inr ⟨a, b, by rw [h, List.concat_eq_append]⟩
theorem qnp (a b : List (List UInt8)) : strs (a ++ b) = strs a ++ strs b := by simp [strs]
theorem qad {w : World} {base : Nat} {e : TypeId} {size : Nat} {v : Value} {n : Nat} {xs : List Value} (h : w.ownsRow base e size v n xs) : ∃ ao c, v = .slice ao n c := by
 rcases h.2 with ⟨h1, h2⟩ | ⟨g, cap, cur, hv, _⟩
 ·subst h2; exact ⟨none, 0, h1⟩
 ·exact ⟨_, _, hv⟩
theorem qm1 {w : World} {base : Nat} {e : TypeId} {size : Nat} {v : Value} {n : Nat} {xs : List Value} (h : w.ownsRow base e size v n xs) {g : Nat} (hg : g < base) : some g ≠ v.ownBlock := by
 rcases h.2 with ⟨rfl, _⟩ | ⟨g', cap, cur, rfl, hb, _⟩
 ·simp [Value.ownBlock]
 ·simp only [Value.ownBlock, ne_eq, Option.some.injEq]; omega
theorem qd4 {w : World} {base : Nat} {e : TypeId} {size : Nat} {v : Value} {n : Nat} {xs : List Value} (h : w.ownsRow base e size v n xs) : ∀ k, v.ownBlock = some k → base ≤ k := by
 rcases h.2 with ⟨rfl, _⟩ | ⟨g', cap, cur, rfl, hb, _⟩
 ·simp [Value.ownBlock]
 ·intro k hk; simp only [Value.ownBlock, Option.some.injEq] at hk; omega
theorem qac {w w' : World} {base : Nat} {e : TypeId} {size : Nat} {v : Value} {n : Nat} {xs : List Value} (h : w.ownsRow base e size v n xs) (hb : Below w.heap.size w w') : w'.ownsRow base e size v n xs := by
 obtain ⟨h1, h2⟩ := h;refine ⟨h1, ?_⟩;rcases h2 with h2 | ⟨g, cap, cur, hv, hg, hh, r⟩
 ·exact .inl h2
 ·exact .inr ⟨g, cap, cur, hv, hg, (hb.block g (q41 hh).1).trans hh, r⟩
theorem qaq {w : World} {base base' : Nat} {e : TypeId} {size : Nat} {v : Value} {n : Nat} {xs : List Value} (h : w.ownsRow base e size v n xs) (hb : base' ≤ base) : w.ownsRow base' e size v n xs := by
 obtain ⟨h1, h2⟩ := h;refine ⟨h1, ?_⟩;rcases h2 with h2 | ⟨g, cap, cur, hv, hg, r⟩
 ·exact .inl h2
 ·exact .inr ⟨g, cap, cur, hv, Nat.le_trans hb hg, r⟩
def KeepT (T : TypeId) (w w' : World) : Prop := ∀ (g : Nat) (cur : Array Value), w.heap[g]? = some (Obj.cells cur T (0, 0)) → w'.heap[g]? = some (Obj.cells cur T (0, 0))
theorem KeepT.refl (T : TypeId) (w : World) : KeepT T w w := fun _ _ h => h
theorem KeepT.trans {T : TypeId} {a b c : World} (h : KeepT T a b) (k : KeepT T b c) : KeepT T a c := fun g cur e => k g cur (h g cur e)
theorem KeepT.below {T : TypeId} {w w' : World} (h : Below w.heap.size w w') : KeepT T w w' := fun g cur e => (h.block g (q41 e).1).trans e
theorem KeepT.grown {T e : TypeId} {w w' : World} {base size n : Nat} {v : Value} {xs : List Value} (hg : w.grownBy w' v.ownBlock) (ho : w.ownsRow base e size v n xs) (hne : e ≠ T) : KeepT T w w' := by
 intro g cur h;refine (hg.block g (q41 h).1 ?_).trans h;rcases ho.2 with ⟨rfl, _⟩ | ⟨g', cap, cur', rfl, hb, hh, _⟩
 ·simp [Value.ownBlock]
 ·intro heq
  simp only [Value.ownBlock, Option.some.injEq] at heq;subst heq;rw [h] at hh;simp only [Option.some.injEq, Obj.cells.injEq] at hh;exact hne hh.2.1.symm
theorem KeepT.setCell {T e : TypeId} {w : World} {g : Nat} {c : Array Value} {fz : Nat × Nat} (hb : w.heap[g]? = some (.cells c e fz)) (hne : e ≠ T) (o : Nat) (u : Value) : KeepT T w (w.setCell ⟨g, o, none⟩ u) := by
 intro g' cur h;have : g' ≠ g := by
  rintro rfl;rw [h] at hb;simp only [Option.some.injEq, Obj.cells.injEq] at hb;exact hne hb.2.1.symm
 rw [heap_setCell_other w ⟨g, o, none⟩ g' u this]; exact h
theorem qan {T : TypeId} {w w' : World} {base size n : Nat} {v : Value} {xs : List Value} (h : w.ownsRow base T size v n xs) (hk : KeepT T w w') : w'.ownsRow base T size v n xs := by
 obtain ⟨h1, h2⟩ := h;refine ⟨h1, ?_⟩;rcases h2 with h2 | ⟨g, cap, cur, hv, hg, hh, r⟩
 ·exact .inl h2
 ·exact .inr ⟨g, cap, cur, hv, hg, hk g cur hh, r⟩
abbrev tStr : TypeId := 9
abbrev tMap : TypeId := 164
abbrev tPtr : TypeId := 158
theorem strK : Maps.Keyed Tryz.prog tStr := Maps.string_keyed Tryz.underlying9
def qji : Value → Option (DataW Unit × List MemPlace)
 | .pointer none => some (.nil, [])
 | .pointer (some ⟨b, 0, none⟩) => some (.lit (.int .i64 (b : Int)), [])
 | _ => none
def qme : Option Nat → Value
 | none => .pointer none
 | some a => .pointer (some ⟨a, 0, none⟩)
def qrl : Option Nat → DataW Unit
 | none => .nil
 | some a => .lit (.int .i64 (a : Int))
theorem qpg {o o' : Option Nat} (h : qrl o = qrl o') : o = o' := by
 cases o <;> cases o' <;> simp [qrl] at h ⊢
 omega
theorem qxt {v : Value} {o : Option Nat} {ps : List MemPlace} (h : qji v = some (qrl o, ps)) : v = qme o := by
 unfold qji at h;split at h
 ·simp only [Option.some.injEq, Prod.mk.injEq] at h
  have : o = none := qpg (o' := none) h.1.symm;rw [this]; rfl
 ·rename_i b
  simp only [Option.some.injEq, Prod.mk.injEq] at h;have : o = some b := qpg (o' := some b) h.1.symm;rw [this]; rfl
 ·cases h
theorem qjh {v : Value} {y : DataW Unit × List MemPlace} (h : qji v = some y) : ∃ o, v = qme o ∧ y = (qrl o, []) := by
 unfold qji at h;split at h
 ·exact ⟨none, rfl, (Option.some.inj h).symm⟩
 ·rename_i b; exact ⟨some b, rfl, (Option.some.inj h).symm⟩
 ·cases h
def MapIs (w : World) (b n : Nat) (f : List UInt8 → Option Nat) : Prop :=
 ∃ D : DataW Unit, w.ownsMap Tryz.prog tStr qji b n D ∧ Maps.IsMap D ∧ ∀ k, D.atKey (.string k) .nil = qrl (f k) ∧ Maps.has D (.string k) = (f k).isSome
def upd (f : List UInt8 → Option Nat) (k : List UInt8) (o : Option Nat) : List UInt8 → Option Nat := fun k' => if k' = k then o else f k'
theorem keyS {s : List UInt8} (h : s.length ≤ maxLen) : keyOf Tryz.prog tStr (.string (S s)) = some (.string s) := by
 have := Go.WideMaps.keyOf_string_mk Tryz.underlying9 (s := S s) (by rw [qea]; exact h);exact this
theorem q10 (s : List UInt8) : WideAt.IsKeyLit (.string s) := by
 simp [WideAt.IsKeyLit]
theorem MapIs.made (w : World) : MapIs (w.alloc (.map #[] 0)) w.heap.size 0 (fun _ => none) :=
 ⟨.map [], World.ownsMap_made _ _ _ _, ⟨[], rfl⟩, fun k => ⟨rfl, rfl⟩⟩
theorem MapIs.lt {w : World} {b n : Nat} {f : List UInt8 → Option Nat} (h : MapIs w b n f) : b < w.heap.size := by
 obtain ⟨D, h, _⟩ := h; exact h.lt
theorem MapIs.mono {w : World} {b n m : Nat} {f : List UInt8 → Option Nat} (h : MapIs w b n f) (hm : n ≤ m) : MapIs w b m f := by
 obtain ⟨D, h, r⟩ := h; exact ⟨D, h.mono hm, r⟩
theorem MapIs.block {w w' : World} {b n : Nat} {f : List UInt8 → Option Nat} (h : MapIs w b n f) (hb : w'.heap[b]? = w.heap[b]?) : MapIs w' b n f := by
 obtain ⟨D, ⟨es, clock, h1, r1⟩, r⟩ := h; exact ⟨D, ⟨es, clock, hb.trans h1, r1⟩, r⟩
theorem MapIs.look {w : World} {b n : Nat} {f : List UInt8 → Option Nat} (h : MapIs w b n f) (k : List UInt8) (hk : k.length ≤ maxLen) :
 (Instr.lookup tMap (.map (some b)) (.string (S k)) false).run Tryz.prog w = .ok (qme (f k)) w := by
 obtain ⟨D, h, _, r⟩ := h;obtain ⟨v, ps, hrun, hv⟩ := h.lookup strK Tryz.underlying164 (z := .pointer none) (by kernel_rfl) (zd := .nil) (zp := []) rfl (keyS hk);rw [(r k).1] at hv;rw [hrun, qxt hv]
theorem look_nil (w : World) (k : List UInt8) (hk : k.length ≤ maxLen) : (Instr.lookup tMap (.map none) (.string (S k)) false).run Tryz.prog w = .ok (.pointer none) w :=
 Maps.look_nil false strK Tryz.underlying164 (z := .pointer none) (by kernel_rfl) (keyS hk)
theorem MapIs.put {w : World} {b n : Nat} {f : List UInt8 → Option Nat} (h : MapIs w b n f) (k : List UInt8) (hk : k.length ≤ maxLen) (a : Nat) (hn : n < maxLen) :
 ∃ w', (Instr.mapUpdate tMap (.map (some b)) (.string (S k)) (.pointer (some ⟨a, 0, none⟩))).run Tryz.prog w = .ok () w' ∧ MapIs w' b (n + 1) (upd f k (some a)) ∧ w.grownBy w' (some b) := by
 obtain ⟨D, h, hm, r⟩ := h;obtain ⟨w', hrun, h', hg⟩ := h.update strK Tryz.underlying164 hn (keyS hk) (val := .pointer (some ⟨a, 0, none⟩)) (d := qrl (some a)) (ps := []) rfl;refine ⟨w', hrun, ⟨_, h', ?_, fun k' => ?_⟩, hg⟩
 ·obtain ⟨es, rfl⟩ := hm; exact ⟨_, rfl⟩
 ·unfold upd
  by_cases e : k' = k
  ·subst e
   rw [if_pos rfl];exact ⟨Maps.atKey_put_same hm (q10 _) _ _, Maps.has_put_same hm (q10 _) _⟩
  ·rw [if_neg e]
   have hne : Lit.string k' ≠ .string k := fun h => e (Lit.string.inj h)
   exact ⟨(Maps.atKey_put_other hne _ _).trans (r k').1, (Maps.has_put_other hne _).trans (r k').2⟩
theorem qgz {w w' : World} {b : Nat} (h : w.mapTurned w' b) : w.grownBy w' (some b) := by
 obtain ⟨es, clock, es', clock', hb, rfl⟩ := h;exact ⟨rfl, rfl, rfl, by simp [Go.ChangeMaps.setBlock], fun i _ hi => Go.ChangeMaps.heap_setBlock_other hb _ (fun e => hi (by rw [e]))⟩
theorem MapIs.del {w : World} {b n : Nat} {f : List UInt8 → Option Nat} (h : MapIs w b n f) (k : List UInt8) (hk : k.length ≤ maxLen) (ty : TypeId) :
 ∃ w', (Builtin.delete_ #[tMap, tStr] ty #[.map (some b), .string (S k)]).run Tryz.prog w = .ok (.tuple #[]) w' ∧ MapIs w' b n (upd f k none) ∧ w.grownBy w' (some b) := by
 obtain ⟨D, h, hm, r⟩ := h;obtain ⟨w', hrun, h', hg⟩ := h.drop strK Tryz.underlying164 (keyS hk) ty;refine ⟨w', hrun, ⟨_, h', ?_, fun k' => ?_⟩, qgz hg⟩
 ·obtain ⟨es, rfl⟩ := hm; exact ⟨_, rfl⟩
 ·unfold upd
  by_cases e : k' = k
  ·subst e
   rw [if_pos rfl];exact ⟨Maps.atKey_del_same _, Maps.has_del_same⟩
  ·rw [if_neg e]
   have hne : Lit.string k' ≠ .string k := fun h => e (Lit.string.inj h)
   exact ⟨(Maps.atKey_del_other hne _).trans (r k').1, (Maps.has_del_other hne).trans (r k').2⟩
theorem MapIs.clear {w : World} {b n : Nat} {f : List UInt8 → Option Nat} (h : MapIs w b n f) (ty : TypeId) :
 ∃ w', (Builtin.clear_ #[tMap] ty #[.map (some b)]).run Tryz.prog w = .ok (.tuple #[]) w' ∧ MapIs w' b 0 (fun _ => none) ∧ w.grownBy w' (some b) := by
 obtain ⟨D, ⟨es, clock, hb, F, hs, hD⟩, hm, r⟩ := h;refine ⟨Go.ChangeMaps.setBlock w b (.map #[] clock), ?_, ⟨.map [], ⟨#[], clock, Go.ChangeMaps.heap_setBlock_same hb _, ⟨by simp, Go.MapKept.stamped_empty clock, by simp⟩, Nat.le_refl _, rfl⟩, ⟨[], rfl⟩, fun k => ⟨rfl, rfl⟩⟩, qgz ⟨es, clock, #[], clock, hb, rfl⟩⟩;simp [Builtin.clear_, run_underlying Tryz.underlying164, MapKept.run_getObj_map hb, MapKept.run_setObj_map _ hb, Result.andThen, Go.ChangeMaps.setBlock]
structure Std (w : World) : Prop where
 maxlen : ∃ m, w.cell? ⟨2, 0, none⟩ = some (.int .i64 m)
theorem Std.below {w w' : World} (h : Std w) (hb : Below w.heap.size w w') : Std w' := by
 obtain ⟨m, hm⟩ := h.maxlen;exact ⟨⟨m, (hb.cell (q40 w _ hm)).trans hm⟩⟩
theorem qz9 (c n : Int) (w : World) (hn : 0 < n) (hn2 : n ≤ 1000) (h1 : -9223372036854775808 ≤ c) (h2 : c ≤ 9223372036854775807) :
 Calls Tryz.prog 17 #[.int .i64 c, .int .i64 n] w fun e w' => (∃ r, e = .returned (.int .i64 r) ∧ 0 ≤ r ∧ r < n) ∧ w = w' := by
 have f0 : (n == 0) = false := by rw [beq_eq_false_iff_ne]; omega
 have f1 : ¬ n = 0 := by omega
 have HZ := q4z (show -n < c.tmod n ∧ c.tmod n < n from ⟨Int.lt_tmod_of_pos c hn, Int.tmod_lt_of_pos c hn⟩);have hneg : n ≠ -1 := by omega
 by_cases hz : c.tmod n < 0
 ·have hb : -1000 ≤ c.tmod n := by have := HZ.out; omega
  go_enter Tryz.func17, Tryz.ntmps17;go_wp2;go_ret;have := HZ.out;exact ⟨⟨_, rfl, by omega, by omega⟩, rfl⟩
 ·have hb : 0 ≤ c.tmod n := by omega
  go_enter Tryz.func17, Tryz.ntmps17;go_wp2;go_ret;have := HZ.out;exact ⟨⟨_, rfl, by omega, by omega⟩, rfl⟩
theorem qxg (c : Int) (n : Nat) (w : World) (hn : 0 < n) (hn2 : n ≤ 1000) (h1 : -9223372036854775808 ≤ c) (h2 : c ≤ 9223372036854775807) :
 Calls Tryz.prog 11 #[.int .i64 c, .int .i64 n] w fun e w' => (∃ r : Nat, e = .returned (.int .i64 (r : Int)) ∧ r < n) ∧ w = w' := by
 have HP := q4z (qz9 c n w (by omega) (by omega) h1 h2);go_enter Tryz.func11, Tryz.ntmps11;go_wp2_with fail;refine HP.out.mono ?_;rintro e w1 ⟨⟨r, rfl, hr0, hr1⟩, rfl⟩;obtain ⟨r, rfl⟩ : ∃ r' : Nat, r = (r' : Int) := ⟨r.toNat, by omega⟩;go_wp2;go_ret;exact ⟨⟨r, rfl, by omega⟩, rfl⟩
def qg2 (c : UInt8) : Bool := 65 ≤ c && c ≤ 90
def qt4 (c : UInt8) : Bool := qg2 c || (48 ≤ c && c ≤ 57) || c == 95
theorem qli (c : UInt8) : qg2 c = true ↔ 65 ≤ (c.toNat : Int) ∧ (c.toNat : Int) ≤ 90 := by
 simp only [qg2, Bool.and_eq_true, decide_eq_true_eq, UInt8.le_iff_toNat_le]; simp; omega
theorem qwm (c : UInt8) : qt4 c = true ↔ (65 ≤ (c.toNat : Int) ∧ (c.toNat : Int) ≤ 90) ∨ (48 ≤ (c.toNat : Int) ∧ (c.toNat : Int) ≤ 57) ∨ (c.toNat : Int) = 95 := by
 simp only [qt4, qg2, Bool.or_eq_true, Bool.and_eq_true, decide_eq_true_eq, beq_iff_eq, UInt8.le_iff_toNat_le, ← UInt8.toNat_inj]; simp; omega
def qd6 : List UInt8 → Nat
 | [] => 0
 | c :: r => if qg2 c then (r.takeWhile qt4).length + 1 else 0
theorem qom {p : UInt8 → Bool} (s : List UInt8) (k : Nat) (hk : k ≤ s.length) (h : ∀ j (hj : j < k), p s[j] = true) (hs : ∀ hk : k < s.length, p s[k] = false) : (s.takeWhile p).length = k := by
 induction s generalizing k with
 | nil => simp at hk; simp [hk]
 | cons c r ih =>
  cases k with
  | zero => have := hs (by simp); simp at this; simp [List.takeWhile_cons, this]
  | succ k =>
   have h0 := h 0 (by omega);simp at h0
   rw [List.takeWhile_cons, if_pos h0, List.length_cons, ih k (by simpa using hk) (fun j hj => by simpa using h (j + 1) (by omega)) (fun hk => hs (by simpa using hk))]
def okG (s : List UInt8) (j : Nat) : Bool := match s[j]? with | none => false | some c => if j = 0 then qg2 c else qt4 c
theorem qpo (s : List UInt8) (k : Nat) (hk : k ≤ s.length) (h : ∀ j, j < k → okG s j = true) (hs : okG s k = false) : qd6 s = k := by
 cases s with
 | nil => simp at hk; simp [hk, qd6]
 | cons c r =>
  cases k with
  | zero => simp [okG] at hs; simp [qd6, hs]
  | succ k =>
   have h0 := h 0 (by omega);simp [okG] at h0
   rw [qd6, if_pos h0, qom r k (by simpa using hk)]
   ·intro j hj
    have := h (j + 1) (by omega);have hjl : j < r.length := by simp at hk; omega
    simp [okG, hjl] at this; exact this
   ·intro hk'
    simp [okG, hk'] at hs; exact hs
theorem qol (p : UInt8 → Bool) (s : List UInt8) : (s.takeWhile p).length ≤ s.length := by
 induction s with
 | nil => simp
 | cons c r ih => rw [List.takeWhile_cons]; split <;> simp <;> omega
theorem qg5 (s : List UInt8) : qd6 s ≤ s.length := by
 cases s with
 | nil => simp [qd6]
 | cons c r =>
  rw [qd6]; split
  ·have := qol qt4 r; simp; omega
  ·simp
def qg4 (s : List UInt8) : Bool := !s.isEmpty && decide (qd6 s = s.length) && decide (s.length ≤ 10)
def varB (s : List UInt8) (i : Nat) : Option (List UInt8 × Nat) :=
 if s[i + 1]? = some 123 then
  (let n := qd6 (s.drop (i + 2)); if n = 0 ∨ 10 < n ∨ s[i + 2 + n]? ≠ some 125 then none else some ((s.drop (i + 2)).take n, n + 3))
 else
  (let n := qd6 (s.drop (i + 1)); if n = 0 ∨ 10 < n then none else some ((s.drop (i + 1)).take n, n + 1))
def qa7 (s : List UInt8) (i : Nat) : Bool := match s[i]? with | none => true | some c => c == 10
def qb4 (s : List UInt8) (i : Nat) : Bool := s[i]? == some 92 && s[i + 1]? == some 10
inductive Atm where
 | ch (c : UInt8)
 | var (name : List UInt8) (at_ : Nat)
 deriving DecidableEq
theorem qei {s : List UInt8} {i : Nat} {x : List UInt8} {n : Nat} (h : varB s i = some (x, n)) : 0 < n ∧ i + n ≤ s.length ∧ x ≠ [] ∧ x.length ≤ 10 := by
 have g1 := qg5 (s.drop (i + 1));have g2 := qg5 (s.drop (i + 2));simp only [List.length_drop] at g1 g2;unfold varB at h;split at h
 ·simp only at h
  split at h
  ·cases h
  ·rename_i ho hn
   simp only [Option.some.injEq, Prod.mk.injEq] at h;have h3 : s[i + 2 + qd6 (s.drop (i + 2))]? = some 125 := by
    apply Classical.byContradiction; intro h9; exact hn (.inr (.inr h9))
   have h4 := (List.getElem?_eq_some_iff.1 h3).1;have hl : x.length = qd6 (s.drop (i + 2)) := by rw [← h.1, List.length_take, List.length_drop]; omega
   refine ⟨by omega, by omega, ?_, by omega⟩;intro e; rw [e] at hl; simp at hl; omega
 ·simp only at h
  split at h
  ·cases h
  ·simp only [Option.some.injEq, Prod.mk.injEq] at h
   have hl : x.length = qd6 (s.drop (i + 1)) := by rw [← h.1, List.length_take, List.length_drop]; omega
   refine ⟨by omega, by omega, ?_, by omega⟩;intro e; rw [e] at hl; simp at hl; omega
def qav (s : List UInt8) (q k : Nat) (acc : List Atm) : Except Nat (List Atm × Nat) :=
 if h : k < s.length then
  if s[k] = 10 then .error q
  else if s[k] = 34 then .ok (acc, k + 1)
  else if s[k] = 36 then match hv : varB s k with
   | none => .error k
   | some (x, n) => have := qei hv; qav s q (k + n) (acc ++ [.var x k])
  else if s[k] = 92 then
   if h1 : k + 1 < s.length then
    if s[k + 1] = 34 ∨ s[k + 1] = 92 ∨ s[k + 1] = 36 then qav s q (k + 2) (acc ++ [.ch s[k + 1]]) else .error k
   else .error k
  else qav s q (k + 1) (acc ++ [.ch s[k]])
 else .error q
termination_by s.length - k
theorem qem (s : List UInt8) (q k : Nat) (acc l : List Atm) (n : Nat) (h : qav s q k acc = .ok (l, n)) : k < n ∧ n ≤ s.length ∧ l.length + k < n + acc.length := by
 induction hm : s.length - k using Nat.strongRecOn generalizing k acc with
 | ind m ih =>
  rw [qav] at h;split at h
  ·split at h
   ·cases h
   ·split at h
    ·simp only [Except.ok.injEq, Prod.mk.injEq] at h; obtain ⟨rfl, rfl⟩ := h; omega
    ·split at h
     ·split at h
      ·cases h
      ·rename_i x n' hv
       obtain ⟨v1, v2, v3, v4⟩ := qei hv;have := ih (s.length - (k + n')) (by omega) _ _ h rfl;simp at this; omega
     ·split at h
      ·split at h
       ·split at h
        ·have := ih (s.length - (k + 2)) (by omega) _ _ h rfl
         simp at this; omega
        ·cases h
       ·cases h
      ·have := ih (s.length - (k + 1)) (by omega) _ _ h rfl
       simp at this; omega
  ·cases h
def qbg (s : List UInt8) (i : Nat) (acc : List Atm) : Except Nat (List Atm × Nat) :=
 if h : i < s.length then
  if s[i] = 10 ∨ qb4 s i = true ∨ s[i] = 32 then .ok (acc, i)
  else if s[i] = 34 then match hq : qav s i (i + 1) [] with
   | .error p => .error p
   | .ok (l, n) => have := qem _ _ _ _ _ _ hq; qbg s n (acc ++ l)
  else if s[i] = 36 then match hv : varB s i with
   | none => .error i
   | some (x, n) => have := qei hv; qbg s (i + n) (acc ++ [.var x i])
  else if s[i] = 92 then
   if h1 : i + 1 < s.length then qbg s (i + 2) (acc ++ [.ch s[i + 1]]) else .error i
  else qbg s (i + 1) (acc ++ [.ch s[i]])
 else .ok (acc, i)
termination_by s.length - i
theorem q2w (s : List UInt8) : okG s s.length = false := by simp [okG]
theorem q31 (s : List UInt8) (k : Nat) (h : k < s.length) : okG s k = if k = 0 then qg2 s[k] else qt4 s[k] := by simp [okG, h]
theorem Rd.pre {w : World} {A : Option Addr} {xs ys : List Value} (h : Rd w A (xs ++ ys)) : Rd w A xs := by
 rcases h with h | ⟨b, o, rfl, hc⟩
 ·exact .inl (List.append_eq_nil_iff.1 h).1
 ·refine .inr ⟨b, o, rfl, fun i u hu => hc i u ?_⟩
  rw [List.getElem?_append_left (List.getElem?_eq_some_iff.1 hu).1]; exact hu
end Go.Proofs.YtikdblkfjchjbaaGreatDoor
