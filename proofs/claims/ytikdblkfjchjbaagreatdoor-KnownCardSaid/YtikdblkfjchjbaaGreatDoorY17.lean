import Derived.Laws.AppendOwnNone
import Derived.Test.YtikdblkfjchjbaaGreatDoorY16
set_option linter.unusedVariables false
set_option linter.unusedSimpArgs false
set_option maxHeartbeats 16000000
set_option maxRecDepth 100000
namespace Go.Proofs.YtikdblkfjchjbaaGreatDoor
open Go.RowKit
theorem Blk2.alloc {w : World} {g : Nat} {a b : Value} (h : Blk2 w g a b) (o : Obj) : Blk2 (w.alloc o) g a b := h.below ((Below.refl w.heap.size w).alloc (Nat.le_refl _) o) h.lt
theorem Blk2.after {w w' : World} {g : Nat} {a b : Value} (h : Blk2 w g a b) (hb : Below w.heap.size w w') : Blk2 w' g a b := h.below hb h.lt
def BlkT (w : World) (g : Nat) (t : TypeId) : Prop := ∃ cs : Array Value, w.heap[g]? = some (Obj.cells cs t (0, 0))
theorem BlkT.new (w : World) (cs : Array Value) (t : TypeId) : BlkT (w.alloc (.cells cs t)) w.heap.size t := ⟨cs, heap_alloc_new w _⟩
theorem BlkT.after {w w' : World} {g : Nat} {t : TypeId} (h : BlkT w g t) (hb : Below w.heap.size w w') : BlkT w' g t := by
 obtain ⟨cs, h⟩ := h;exact ⟨cs, (hb.block g (q41 h).1).trans h⟩
theorem BlkT.set {w : World} {g : Nat} {t : TypeId} (h : BlkT w g t) (o : Nat) (u : Value) : BlkT (w.setCell ⟨g, o, none⟩ u) g t := by
 obtain ⟨cs, h⟩ := h;exact ⟨_, heap_setCell_same w g o cs t u h⟩
theorem qqd (w : World) (a b : Value) (t : TypeId) (B : Nat) (hB : w.heap.size = B) : ∀ j u, [a, b][j]? = some u → (w.alloc (.cells #[a, b] t)).cell? ((⟨B, 0, none⟩ : Addr).add j) = some u := by
 subst hB;intro j u h;match j, h with
 | 0, h => simp at h; subst h; simp [Addr.add]
 | 1, h => simp at h; subst h; simp [Addr.add]
theorem q13 {s : List UInt8} {k : Nat} (h : k < s.length) : okS s k = (qik s[k] || (qnh s[k] && decide (k ≠ 0))) := by simp [okS, h]
theorem qt8 {s : List UInt8} (h : ∀ j, j < s.length → okS s j = true) : qb8 s = (!s.isEmpty && decide (s.length ≤ 10)) := by
 unfold qb8;rw [show (List.range s.length).all (okS s) = true from by rw [List.all_eq_true]; intro j hj; exact h j (by simpa using hj)];simp
theorem qmr {s : List UInt8} {k : Nat} (hk : k < s.length) (h : okS s k = false) : qb8 s = false := by
 unfold qb8;rw [show (List.range s.length).all (okS s) = false from by rw [List.all_eq_false]; exact ⟨k, by simpa using hk, by simp [h]⟩];simp
theorem qnk {l : List StageG} {x : List UInt8} {k : Nat} (hk : k < l.length) (h : l[k].name = x) (hb : ∀ j (hj : j < l.length), j < k → l[j].name ≠ x) : qa2 l x = k := by
 unfold qa2;have : l.findIdx? (fun y => y.name == x) = some k := by
  rw [List.findIdx?_eq_some_iff_getElem];refine ⟨hk, by simpa using h, fun j hj => by simpa using hb j (by omega) hj⟩
 rw [this]
theorem qj2 {l : List StageG} {x : List UInt8} (hb : ∀ j (hj : j < l.length), l[j].name ≠ x) : qa2 l x = -1 := by
 unfold qa2;have : l.findIdx? (fun y => y.name == x) = none := by
  rw [List.findIdx?_eq_none_iff];intro y hy;obtain ⟨j, hj, rfl⟩ := List.getElem_of_mem hy;simpa using hb j hj
 rw [this]
theorem q0f (c : UInt8) : octC c = true ↔ 48 ≤ (c.toNat : Int) ∧ (c.toNat : Int) ≤ 55 := by
 simp only [octC, Bool.and_eq_true, decide_eq_true_eq, UInt8.le_iff_toNat_le]; simp; omega
def quz (s : List UInt8) : Bool := s.all octC
abbrev qbh : TypeId := 9
def RdT (T : TypeId) (w : World) (A : Option Addr) (cs : List Value) : Prop :=
 cs = [] ∨ ∃ (b o : Nat) (cur : Array Value), A = some ⟨b, o, none⟩ ∧ w.heap[b]? = some (Obj.cells cur T (0, 0)) ∧ ∀ (i : Nat) (u : Value), cs[i]? = some u → cur[o + i]? = some u
theorem RdT.rd {T : TypeId} {w : World} {A : Option Addr} {cs : List Value} (h : RdT T w A cs) : Rd w A cs := by
 rcases h with rfl | ⟨b, o, cur, rfl, hh, hc⟩
 ·exact .inl rfl
 ·refine .inr ⟨b, o, rfl, fun i u hu => ?_⟩
  rw [cell_of_row w b (o + i) cur T (0, 0) hh]; exact hc i u hu
theorem RdT.keep {T : TypeId} {w w' : World} {A : Option Addr} {cs : List Value} (h : RdT T w A cs) (hk : KeepT T w w') : RdT T w' A cs := by
 rcases h with rfl | ⟨b, o, cur, rfl, hh, hc⟩
 ·exact .inl rfl
 ·exact .inr ⟨b, o, cur, rfl, hk b cur hh, hc⟩
theorem RdT.of_own {T : TypeId} {w : World} {base size n c : Nat} {ao : Option Addr} {xs : List Value} (h : w.ownsRow base T size (.slice ao n c) n xs) : RdT T w ao xs := by
 obtain ⟨h1, h2⟩ := h;rcases h2 with ⟨e, rfl⟩ | ⟨g, cap, cur, e, hg, hh, hn, hm, r1, r2⟩
 ·refine .inl ?_
  simpa using h1
 ·simp only [Value.slice.injEq] at e
  obtain ⟨rfl, -, rfl⟩ := e;refine .inr ⟨g, 0, cur, rfl, hh, fun i u hu => ?_⟩;have hi := (List.getElem?_eq_some_iff.1 hu).1;rw [← r2, List.getElem?_take] at hu;rw [Nat.zero_add];split at hu
  ·simpa using hu
  ·cases hu
theorem RdT.drop {T : TypeId} {w : World} {b o : Nat} {cs : List Value} (h : RdT T w (some ⟨b, o, none⟩) cs) (m : Nat) : RdT T w (some ⟨b, o + m, none⟩) (cs.drop m) := by
 rcases h with rfl | ⟨b', o', cur, e, hh, hc⟩
 ·exact .inl (by simp)
 ·simp only [Option.some.injEq, Addr.mk.injEq] at e
  obtain ⟨rfl, rfl, -⟩ := e;refine .inr ⟨b, o + m, cur, rfl, hh, fun i u hu => ?_⟩;rw [List.getElem?_drop] at hu;rw [Nat.add_assoc]; exact hc _ _ hu
end Go.Proofs.YtikdblkfjchjbaaGreatDoor
