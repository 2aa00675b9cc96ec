/-
  Plain: the files of a disk, by two rows: names and bytes.
-/
import Derived.Shelf.Spec.SearchS
import Derived.Test.YtkdplkhnkimhpaaGreatDoorY00
import Derived.Test.YtkdplkhnkimhpaaGreatDoorY01
set_option linter.unusedVariables false
set_option linter.unusedSimpArgs false
namespace Go.Proofs.YtkdplkhnkimhpaaGreatDoor

abbrev Names := List (List UInt8)
/-- where a search ends, and whether it has found -/
def srchI (ns : Names) (x : List UInt8) : Nat := Lib.bsGo (fun t => Op.bytesLess (S (ns.getD t [])).toList (S x).toList) ns.length 0 ns.length
def srchB (ns : Names) (x : List UInt8) : Bool := decide (srchI ns x < ns.length ∧ S (ns.getD (srchI ns x) []) = S x)
theorem bsGo_le (f : Nat → Bool) : ∀ (n lo hi : Nat), lo ≤ hi → Lib.bsGo f n lo hi ≤ hi := by
  intro n
  induction n with
  | zero => intro lo hi h; simpa [Lib.bsGo] using h
  | succ n ih =>
    intro lo hi h
    unfold Lib.bsGo
    split
    · split
      · exact ih _ _ (by omega)
      · exact Nat.le_trans (ih _ _ (by omega)) (by omega)
    · exact h
theorem srchI_le (ns : Names) (x : List UInt8) : srchI ns x ≤ ns.length := bsGo_le _ _ _ _ (Nat.zero_le _)
theorem srchB_lt {ns : Names} {x : List UInt8} (h : srchB ns x = true) : srchI ns x < ns.length := (of_decide_eq_true h).1
theorem srch_nil (x : List UInt8) : srchI [] x = 0 ∧ srchB [] x = false := ⟨rfl, by simp [srchB]⟩
def insL {α : Type} (l : List α) (k : Nat) (x : α) : List α := l.take k ++ x :: l.drop k
theorem insL_len {α : Type} (l : List α) (k : Nat) (x : α) (h : k ≤ l.length) : (insL l k x).length = l.length + 1 := by simp [insL]; omega
structure DiskL where
  ns : Names
  ds : Names
def wrD (D : DiskL) (x d : List UInt8) : DiskL := if srchB D.ns x = true then ⟨D.ns, D.ds.set (srchI D.ns x) d⟩ else ⟨insL D.ns (srchI D.ns x) x, insL D.ds (srchI D.ns x) d⟩
def rmD (D : DiskL) (x : List UInt8) : DiskL := if srchB D.ns x = true then ⟨D.ns.eraseIdx (srchI D.ns x), D.ds.eraseIdx (srchI D.ns x)⟩ else D
def rdD (D : DiskL) (x : List UInt8) : List UInt8 := if srchB D.ns x = true then D.ds.getD (srchI D.ns x) [] else []
def asideB (x : List UInt8) : List UInt8 := 116 :: x.drop 1
def keepD (D : DiskL) (x d : List UInt8) : DiskL := wrD (rmD (wrD D (asideB x) d) (asideB x)) x (rdD (wrD D (asideB x) d) (asideB x))
/-- few and small files -/
structure Small (D : DiskL) (n : Nat) : Prop where
  same : D.ns.length = D.ds.length
  few : D.ns.length ≤ n
  names : ∀ x ∈ D.ns, x.length ≤ 100
  data : ∀ x ∈ D.ds, x.length ≤ 5000
theorem Small.mono {D : DiskL} {n m : Nat} (h : Small D n) (hm : n ≤ m) : Small D m := ⟨h.same, Nat.le_trans h.few hm, h.names, h.data⟩
theorem mem_ins {α : Type} {l : List α} {k : Nat} {x y : α} (h : y ∈ insL l k x) : y = x ∨ y ∈ l := by
  unfold insL at h
  rcases List.mem_append.1 h with h | h
  · exact .inr (List.mem_of_mem_take h)
  · rcases List.mem_cons.1 h with h | h
    · exact .inl h
    · exact .inr (List.mem_of_mem_drop h)
theorem Small.wr {D : DiskL} {n : Nat} (h : Small D n) {x d : List UInt8} (hx : x.length ≤ 100) (hd : d.length ≤ 5000) : Small (wrD D x d) (n + 1) := by
  have hk := srchI_le D.ns x
  unfold wrD
  split
  · refine ⟨by rw [List.length_set]; exact h.same, Nat.le_succ_of_le h.few, h.names, fun y hy => ?_⟩
    rcases List.mem_or_eq_of_mem_set hy with hy | rfl
    · exact h.data y hy
    · exact hd
  · refine ⟨?_, ?_, fun y hy => ?_, fun y hy => ?_⟩
    · show (insL _ _ _).length = (insL _ _ _).length
      rw [insL_len _ _ _ hk, insL_len _ _ _ (by rw [← h.same]; exact hk), h.same]
    · show (insL _ _ _).length ≤ _
      rw [insL_len _ _ _ hk]; have := h.few; omega
    · rcases mem_ins hy with rfl | hy
      · exact hx
      · exact h.names y hy
    · rcases mem_ins hy with rfl | hy
      · exact hd
      · exact h.data y hy
theorem Small.rm {D : DiskL} {n : Nat} (h : Small D n) (x : List UInt8) : Small (rmD D x) n := by
  unfold rmD
  split
  · rename_i hb
    have hlt := srchB_lt hb
    refine ⟨?_, ?_, fun y hy => h.names y (List.mem_of_mem_eraseIdx hy), fun y hy => h.data y (List.mem_of_mem_eraseIdx hy)⟩
    · show (List.eraseIdx _ _).length = (List.eraseIdx _ _).length
      rw [List.length_eraseIdx_of_lt hlt, List.length_eraseIdx_of_lt (by rw [← h.same]; exact hlt), h.same]
    · show (List.eraseIdx _ _).length ≤ _
      rw [List.length_eraseIdx_of_lt hlt]; have := h.few; omega
  · exact h
theorem getD_le {l : Names} {n k : Nat} (h : ∀ x ∈ l, x.length ≤ n) : (l.getD k []).length ≤ n := by
  rw [List.getD_eq_getElem?_getD]
  cases hk : l[k]? with
  | none => simp
  | some y => exact h y (List.mem_of_getElem? hk)
theorem Small.rd {D : DiskL} {n : Nat} (h : Small D n) (x : List UInt8) : (rdD D x).length ≤ 5000 := by
  unfold rdD
  split
  · exact getD_le h.data
  · simp
theorem aside_len (x : List UInt8) (h : x.length ≤ 99) : (asideB x).length ≤ 100 := by simp [asideB]; omega
theorem Small.keep {D : DiskL} {n : Nat} (h : Small D n) {x d : List UInt8} (hx : x.length ≤ 99) (hd : d.length ≤ 5000) : Small (keepD D x d) (n + 2) :=
  ((h.wr (aside_len x hx) hd).rm _).wr (by omega) ((h.wr (aside_len x hx) hd).rd _)
theorem bs_one (p : Nat → Bool) (h : p 0 = false) : Lib.bsGo p 1 0 1 = 0 := by
  unfold Lib.bsGo
  simp [h, Lib.bsGo]
theorem bytesLess_irrefl : ∀ l : List UInt8, Op.bytesLess l l = false := by
  intro l
  induction l with
  | nil => rfl
  | cons a l ih => simp [Op.bytesLess, ih]
theorem srch_one (x : List UInt8) : srchI [x] x = 0 ∧ srchB [x] x = true := by
  have h : srchI [x] x = 0 := bs_one _ (by simp [bytesLess_irrefl])
  exact ⟨h, by unfold srchB; rw [h]; simp⟩
theorem keep_nil (x d : List UInt8) : keepD ⟨[], []⟩ x d = ⟨[x], [d]⟩ := by
  have e1 : wrD ⟨[], []⟩ (asideB x) d = ⟨[asideB x], [d]⟩ := by unfold wrD; rw [(srch_nil _).2]; rfl
  unfold keepD
  rw [e1]
  have e2 : rmD ⟨[asideB x], [d]⟩ (asideB x) = ⟨[], []⟩ := by unfold rmD; rw [if_pos (srch_one _).2]; simp [(srch_one _).1]
  have e3 : rdD ⟨[asideB x], [d]⟩ (asideB x) = d := by unfold rdD; rw [if_pos (srch_one _).2]; simp [(srch_one _).1]
  rw [e2, e3]
  unfold wrD; rw [(srch_nil _).2]; rfl
end Go.Proofs.YtkdplkhnkimhpaaGreatDoor
