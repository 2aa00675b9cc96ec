/-
  The program: a disk in memory: found, read, written, removed.
  The program: a disk in memory: written, removed.
  The program: an act on a disk.
  The program: numerals in octal and in decimal digits.
-/
import Derived.BigRegion
import Derived.Deep.RegionLaw
import Derived.Deep.AppendLies
import Derived.StillTailTactics
import Derived.Test.YtkdplkhnkimhpaaGreatDoorShelf
import Derived.Test.YtkdplkhnkimhpaaGreatDoorY06
import Derived.Test.YtkdplkhnkimhpaaGreatDoorY09
import Derived.Test.YtkdplkhnkimhpaaGreatDoorY10
set_option linter.unusedVariables false
set_option linter.unusedSimpArgs false
namespace Go.Proofs.YtkdplkhnkimhpaaGreatDoor
open Go.RowKit

abbrev tFiles : TypeId := 79
abbrev tAct : TypeId := 140
structure DiskV (w : World) (B fb : Nat) (v1 v2 v3 : Value) (q : Int) (na : Nat) (D : DiskL) : Prop where
  blk : w.heap[fb]? = some (.cells #[v1, v2, v3, .int .i64 q] tFiles (0, 0))
  ge : B ≤ fb
  r1 : RowS w B v1 D.ns
  r2 : RowS w B v2 D.ds
  r3 : ∃ n xs, n ≤ na ∧ w.ownsRow B tAct 4 v3 n xs
  apart : ∀ g, v1.ownBlock = some g → v2.ownBlock ≠ some g
theorem DiskV.lt {w : World} {B fb : Nat} {v1 v2 v3 : Value} {q : Int} {na : Nat} {D : DiskL} (h : DiskV w B fb v1 v2 v3 q na D) : fb < w.heap.size := (Array.getElem?_eq_some_iff.1 h.blk).1
theorem RowS.ne_of {w : World} {B : Nat} {v : Value} {l : Names} (h : RowS w B v l) {b : Nat} {cs : Array Value} {T : TypeId} {fz : Nat × Nat} (hb : w.heap[b]? = some (.cells cs T fz)) (hT : T ≠ tStr) : v.ownBlock ≠ some b := by
  intro hv
  rcases h with ⟨rfl, _⟩ | ⟨g, c, f, rfl, _, _, _, _, ⟨cur, h5, _⟩, _⟩
  · cases hv
  · cases hv
    rw [hb] at h5
    injection h5 with h5
    injection h5 with _ h5 _
    exact hT h5
theorem own_neT {w : World} {B size n : Nat} {T : TypeId} {v : Value} {xs : List Value} (h : w.ownsRow B T size v n xs) {b : Nat} {cs : Array Value} {T' : TypeId} {fz : Nat × Nat} (hb : w.heap[b]? = some (.cells cs T' fz)) (hT : T' ≠ T) : v.ownBlock ≠ some b := by
  intro hv
  rcases h.2 with ⟨rfl, _⟩ | ⟨g, c, cur, rfl, _, h5, _⟩
  · cases hv
  · cases hv
    rw [hb] at h5
    injection h5 with h5
    injection h5 with _ h5 _
    exact hT h5
theorem own_keepB {w w' : World} {B size n : Nat} {T : TypeId} {v : Value} {xs : List Value} (h : w.ownsRow B T size v n xs) (hb : ∀ g, v.ownBlock = some g → w'.heap[g]? = w.heap[g]?) : w'.ownsRow B T size v n xs := by
  refine ⟨h.1, h.2.imp id ?_⟩
  rintro ⟨g, c, cur, rfl, h1, h5, h6⟩
  exact ⟨g, c, cur, rfl, h1, (hb g rfl).trans h5, h6⟩
theorem DiskV.below {w w' : World} {B fb : Nat} {v1 v2 v3 : Value} {q : Int} {na : Nat} {D : DiskL} (h : DiskV w B fb v1 v2 v3 q na D) (hb : Below w.heap.size w w') : DiskV w' B fb v1 v2 v3 q na D := by
  obtain ⟨n, xs, hn, ho⟩ := h.r3
  exact ⟨(hb.block fb h.lt).trans h.blk, h.ge, h.r1.below hb, h.r2.below hb, ⟨n, xs, hn, own_keepB ho (fun g hg => hb.block g (ho.lt g hg).2)⟩, h.apart⟩
/-- all blocks stay but texts' rows and disks -/
def KeepD (w w' : World) : Prop := ∀ T, T ≠ tStr → T ≠ tFiles → KeepT T w w'
theorem KeepD.below {w w' : World} (h : Below w.heap.size w w') : KeepD w w' := fun _ _ _ => KeepT.below h
theorem KeepD.trans {a b c : World} (h : KeepD a b) (k : KeepD b c) : KeepD a c := fun T h1 h2 => (h T h1 h2).trans (k T h1 h2)
/-- .. and acts' rows -/
def KeepE (w w' : World) : Prop := ∀ T, T ≠ tStr → T ≠ tFiles → T ≠ tAct → KeepT T w w'
theorem KeepE.below {w w' : World} (h : Below w.heap.size w w') : KeepE w w' := fun _ _ _ _ => KeepT.below h
theorem KeepE.trans {a b c : World} (h : KeepE a b) (k : KeepE b c) : KeepE a c := fun T h1 h2 h3 => (h T h1 h2 h3).trans (k T h1 h2 h3)
theorem KeepD.e {a b : World} (h : KeepD a b) : KeepE a b := fun T h1 h2 _ => h T h1 h2
theorem RowS.keepT {w w2 : World} {B : Nat} {v : Value} {l : Names} (h : RowS w B v l) (hg : w.grownBy w2 v.ownBlock) {T : TypeId} (hT : T ≠ tStr) : KeepT T w w2 := fun g cur e => (hg.block g (Array.getElem?_eq_some_iff.1 e).1 (fun e2 => h.ne_of e hT e2.symm)).trans e
/-- the names' row is another one -/
theorem DiskV.set1 {w : World} {B fb : Nat} {v1 v2 v3 : Value} {q : Int} {na : Nat} {D : DiskL} (h : DiskV w B fb v1 v2 v3 q na D) {w2 : World} {v1' : Value} {ns' : Names} (hB : B ≤ w.heap.size) (hr : RowS w2 B v1' ns') (hg : w.grownBy w2 v1.ownBlock) (ho : v1'.ownBlock = v1.ownBlock ∨ ∃ g, v1'.ownBlock = some g ∧ w.heap.size ≤ g) :
    DiskV (w2.setCell ⟨fb, 0, none⟩ v1') B fb v1' v2 v3 q na ⟨ns', D.ds⟩ ∧ Below B w (w2.setCell ⟨fb, 0, none⟩ v1') ∧ w2.cell? ⟨fb, 0, none⟩ = some v1 ∧ w2.frozen? ⟨fb, 0, none⟩ = false ∧ KeepD w (w2.setCell ⟨fb, 0, none⟩ v1') := by
  have hfb1 := h.r1.ne_of h.blk (by decide)
  have hfb2 := h.r2.ne_of h.blk (by decide)
  obtain ⟨n, xs, hn, ho3⟩ := h.r3
  have hfb3 := own_neT ho3 h.blk (by decide)
  have hblk2 : w2.heap[fb]? = some (.cells #[v1, v2, v3, .int .i64 q] tFiles (0, 0)) := (hg.block fb h.lt (fun e => hfb1 e.symm)).trans h.blk
  have hfb1' : v1'.ownBlock ≠ some fb := by
    rcases ho with e | ⟨g, e, hge⟩
    · rw [e]; exact hfb1
    · rw [e]; intro he; cases he; have := h.lt; omega
  have h13 : ∀ g, v3.ownBlock = some g → v1.ownBlock ≠ some g := by
    intro g h3 h1
    rcases ho3.2 with ⟨e, _⟩ | ⟨g3, c3, cur3, e, _, e5, _⟩
    · rw [e] at h3; cases h3
    · rw [e] at h3; cases h3
      exact h.r1.ne_of e5 (by decide) h1
  refine ⟨⟨Go.heap_setCell_same w2 fb 0 _ _ v1' hblk2, h.ge, hr.keep fun g hv => heap_setCell_other w2 ⟨fb, 0, none⟩ g v1' (by show g ≠ fb; intro e; rw [e] at hv; exact hfb1' hv), ?_, ⟨n, xs, hn, own_keepB ho3 fun g hv => ?_⟩, ?_⟩, ?_, by rw [cell_of_row _ _ _ _ _ _ hblk2]; rfl, frozen_of_row w2 fb 0 _ _ hblk2, fun T h1 h2 => (h.r1.keepT hg h1).trans (KeepT.setCell hblk2 (fun e => h2 e.symm) 0 v1')⟩
  · refine h.r2.keep fun g hv => (heap_setCell_other w2 ⟨fb, 0, none⟩ g v1' (by show g ≠ fb; intro e; rw [e] at hv; exact hfb2 hv)).trans (hg.block g (h.r2.lt g hv).2 (fun e => h.apart g e.symm hv))
  · exact (heap_setCell_other w2 ⟨fb, 0, none⟩ g v1' (by show g ≠ fb; intro e; rw [e] at hv; exact hfb3 hv)).trans (hg.block g (ho3.lt g hv).2 (fun e => h13 g hv e.symm))
  · intro g h1 h2
    rcases ho with e | ⟨g', e, hge⟩
    · rw [e] at h1; exact h.apart g h1 h2
    · rw [e] at h1; cases h1; have := (h.r2.lt g h2).2; omega
  · exact ((Below.refl B w).grown hg hB (fun k hk => (h.r1.lt k hk).1)).setCell (p := ⟨fb, 0, none⟩) h.ge _
/-- the bytes' row is another one -/
theorem DiskV.set2 {w : World} {B fb : Nat} {v1 v2 v3 : Value} {q : Int} {na : Nat} {D : DiskL} (h : DiskV w B fb v1 v2 v3 q na D) {w2 : World} {v2' : Value} {ds' : Names} (hB : B ≤ w.heap.size) (hr : RowS w2 B v2' ds') (hg : w.grownBy w2 v2.ownBlock) (ho : v2'.ownBlock = v2.ownBlock ∨ ∃ g, v2'.ownBlock = some g ∧ w.heap.size ≤ g) :
    DiskV (w2.setCell ⟨fb, 1, none⟩ v2') B fb v1 v2' v3 q na ⟨D.ns, ds'⟩ ∧ Below B w (w2.setCell ⟨fb, 1, none⟩ v2') ∧ w2.cell? ⟨fb, 1, none⟩ = some v2 ∧ w2.frozen? ⟨fb, 1, none⟩ = false ∧ KeepD w (w2.setCell ⟨fb, 1, none⟩ v2') := by
  have hfb1 := h.r1.ne_of h.blk (by decide)
  have hfb2 := h.r2.ne_of h.blk (by decide)
  obtain ⟨n, xs, hn, ho3⟩ := h.r3
  have hfb3 := own_neT ho3 h.blk (by decide)
  have hblk2 : w2.heap[fb]? = some (.cells #[v1, v2, v3, .int .i64 q] tFiles (0, 0)) := (hg.block fb h.lt (fun e => hfb2 e.symm)).trans h.blk
  have hfb2' : v2'.ownBlock ≠ some fb := by
    rcases ho with e | ⟨g, e, hge⟩
    · rw [e]; exact hfb2
    · rw [e]; intro he; cases he; have := h.lt; omega
  have h23 : ∀ g, v3.ownBlock = some g → v2.ownBlock ≠ some g := by
    intro g h3 h1
    rcases ho3.2 with ⟨e, _⟩ | ⟨g3, c3, cur3, e, _, e5, _⟩
    · rw [e] at h3; cases h3
    · rw [e] at h3; cases h3
      exact h.r2.ne_of e5 (by decide) h1
  refine ⟨⟨Go.heap_setCell_same w2 fb 1 _ _ v2' hblk2, h.ge, ?_, hr.keep fun g hv => heap_setCell_other w2 ⟨fb, 1, none⟩ g v2' (by show g ≠ fb; intro e; rw [e] at hv; exact hfb2' hv), ⟨n, xs, hn, own_keepB ho3 fun g hv => ?_⟩, ?_⟩, ?_, by rw [cell_of_row _ _ _ _ _ _ hblk2]; rfl, frozen_of_row w2 fb 1 _ _ hblk2, fun T h1 h2 => (h.r2.keepT hg h1).trans (KeepT.setCell hblk2 (fun e => h2 e.symm) 1 v2')⟩
  · refine h.r1.keep fun g hv => (heap_setCell_other w2 ⟨fb, 1, none⟩ g v2' (by show g ≠ fb; intro e; rw [e] at hv; exact hfb1 hv)).trans (hg.block g (h.r1.lt g hv).2 (fun e => h.apart g hv e.symm))
  · exact (heap_setCell_other w2 ⟨fb, 1, none⟩ g v2' (by show g ≠ fb; intro e; rw [e] at hv; exact hfb3 hv)).trans (hg.block g (ho3.lt g hv).2 (fun e => h23 g hv e.symm))
  · intro g h1 h2
    rcases ho with e | ⟨g', e, hge⟩
    · rw [e] at h2; exact h.apart g h1 h2
    · rw [e] at h2; cases h2; have := (h.r1.lt g h1).2; omega
  · exact ((Below.refl B w).grown hg hB (fun k hk => (h.r2.lt k hk).1)).setCell (p := ⟨fb, 1, none⟩) h.ge _
def DiskAt (w : World) (B fb : Nat) (q : Int) (na : Nat) (D : DiskL) : Prop := ∃ v1 v2 v3, DiskV w B fb v1 v2 v3 q na D
theorem DiskAt.below {w w' : World} {B fb : Nat} {q : Int} {na : Nat} {D : DiskL} (h : DiskAt w B fb q na D) (hb : Below w.heap.size w w') : DiskAt w' B fb q na D := by
  obtain ⟨v1, v2, v3, h⟩ := h; exact ⟨v1, v2, v3, h.below hb⟩
theorem DiskV.cells {w : World} {B fb : Nat} {v1 v2 v3 : Value} {q : Int} {na : Nat} {D : DiskL} (h : DiskV w B fb v1 v2 v3 q na D) : w.cell? ⟨fb, 0, none⟩ = some v1 ∧ w.cell? ⟨fb, 1, none⟩ = some v2 ∧ w.cell? ⟨fb, 2, none⟩ = some v3 ∧ w.cell? ⟨fb, 3, none⟩ = some (.int .i64 q) ∧ ∀ j, w.frozen? ⟨fb, j, none⟩ = false := by
  refine ⟨?_, ?_, ?_, ?_, fun j => frozen_of_row w fb j _ _ h.blk⟩ <;> rw [cell_of_row _ _ _ _ _ _ h.blk] <;> rfl
set_option maxHeartbeats 1000000 in
theorem td_find_any {w : World} {B fb : Nat} {v1 v2 v3 : Value} {q : Int} {na : Nat} {D : DiskL} (h : DiskV w B fb v1 v2 v3 q na D) (hl : D.ns.length ≤ 1000) (x : List UInt8) :
    Calls Tryz.prog 67 #[.pointer (some ⟨fb, 0, none⟩), .string (S x)] w fun e w' => e = .returned (.tuple #[.int .i64 (srchI D.ns x : Nat), .bool (srchB D.ns x)]) ∧ ∃ q, w' = w.drewN q := by
  obtain ⟨a1, n1, rfl⟩ := h.r1.form
  obtain ⟨c0, _⟩ := h.cells
  have HS := Lib.hid (search_any h.r1 hl x)
  generalize srchI D.ns x = k at HS ⊢
  generalize srchB D.ns x = is at HS ⊢
  clear h
  go_enter Tryz.func67, Tryz.ntmps67
  go_wp2_with fail
  refine HS.out.mono ?_
  rintro e w1 ⟨rfl, hq⟩
  have HQ := Lib.hid hq
  clear hq
  go_wp2
  go_ret2
  exact ⟨rfl, HQ.out⟩
theorem below_drewN {B : Nat} {w : World} (n : Nat) : Below B w (w.drewN n) := ⟨rfl, rfl, rfl, Nat.le_refl _, fun _ _ => rfl⟩
set_option maxHeartbeats 1000000 in
theorem read_any {w : World} {B fb : Nat} {v1 v2 v3 : Value} {q : Int} {na : Nat} {D : DiskL} (h : DiskV w B fb v1 v2 v3 q na D) (hl : D.ns.length ≤ 1000) (hs : D.ns.length = D.ds.length) (x : List UInt8) :
    Calls Tryz.prog 72 #[.pointer (some ⟨fb, 0, none⟩), .string (S x)] w fun e w' => e = .returned (.tuple #[.string (S (rdD D x)), .bool (srchB D.ns x)]) ∧ ∃ q, w' = w.drewN q := by
  have HF := Lib.hid (td_find_any h hl x)
  have HR := Lib.hid (show rdD D x = if srchB D.ns x = true then D.ds.getD (srchI D.ns x) [] else [] from rfl)
  have HL := Lib.hid (fun hb => srchB_lt (ns := D.ns) (x := x) hb)
  generalize srchI D.ns x = k at HF HR HL
  obtain ⟨is, his⟩ : ∃ is, srchB D.ns x = is := ⟨_, rfl⟩
  rw [his] at HF HR HL ⊢
  clear his
  have HV := Lib.hid h
  clear h
  go_enter Tryz.func72, Tryz.ntmps72
  go_wp2_with fail
  refine HF.out.mono ?_
  rintro e w1 ⟨rfl, qq, rfl⟩
  cases is with
  | false =>
    go_wp2
    go_ret2
    exact ⟨by rw [HR.out]; rfl, qq, rfl⟩
  | true =>
    have hk : k < D.ds.length := by rw [← hs]; exact HL.out rfl
    obtain ⟨g, c, hv, _, hg, hc, _⟩ := HV.out.r2.at k hk
    subst hv
    obtain ⟨b, hb⟩ : ∃ b, D.ds.getD k [] = b := ⟨_, rfl⟩
    rw [hb] at hc
    have HR2 := Lib.hid ((HR.out.trans (if_pos rfl)).trans hb)
    obtain ⟨_, c1, _⟩ := HV.out.cells
    clear hb HR
    have d1 : (w.drewN qq).cell? ⟨fb, 1, none⟩ = some (.slice (some ⟨g, 0, none⟩) D.ds.length c) := c1
    have d2 : (w.drewN qq).cell? ⟨g, k, none⟩ = some (.string (S b)) := hc
    have hki : (k : Int) < (D.ds.length : Int) := by omega
    go_wp2
    go_ret2
    exact ⟨by rw [HR2.out]; rfl, qq, rfl⟩
end Go.Proofs.YtkdplkhnkimhpaaGreatDoor
namespace Go.Proofs.YtkdplkhnkimhpaaGreatDoor
open Go.RowKit

/-- a cell of the bytes' row -/
theorem DiskV.put2 {w : World} {B fb g c : Nat} {v1 v3 : Value} {q : Int} {na : Nat} {D : DiskL} (h : DiskV w B fb v1 (.slice (some ⟨g, 0, none⟩) D.ds.length c) v3 q na D) (k : Nat) (hk : k < D.ds.length) (x : List UInt8) :
    DiskV (w.setCell ⟨g, k, none⟩ (.string (S x))) B fb v1 (.slice (some ⟨g, 0, none⟩) D.ds.length c) v3 q na ⟨D.ns, D.ds.set k x⟩ ∧ Below B w (w.setCell ⟨g, k, none⟩ (.string (S x))) ∧ KeepD w (w.setCell ⟨g, k, none⟩ (.string (S x))) := by
  have hgb := (h.r2.lt g rfl).1
  have hfb2 := h.r2.ne_of h.blk (by decide)
  obtain ⟨n, xs, hn, ho3⟩ := h.r3
  have hne : ∀ g', v3.ownBlock = some g' → g' ≠ g := by
    intro g' hv e
    subst e
    rcases ho3.2 with ⟨e, _⟩ | ⟨g3, c3, cur3, e, _, e5, _⟩
    · rw [e] at hv; cases hv
    · rw [e] at hv; cases hv
      exact h.r2.ne_of e5 (by decide) rfl
  refine ⟨⟨(heap_setCell_other w ⟨g, k, none⟩ fb _ (by show fb ≠ g; intro e; exact hfb2 (by rw [e]; rfl))).trans h.blk, h.ge, h.r1.keep fun g' hv => heap_setCell_other w ⟨g, k, none⟩ g' _ (by show g' ≠ g; intro e; exact h.apart g' hv (by rw [e]; rfl)), ?_, ⟨n, xs, hn, own_keepB ho3 fun g' hv => heap_setCell_other w ⟨g, k, none⟩ g' _ (hne g' hv)⟩, h.apart⟩, (Below.refl B w).setCell (p := ⟨g, k, none⟩) hgb _, ?_⟩
  · exact h.r2.set k hk x
  · intro T hT _ g' cur e
    exact (heap_setCell_other w ⟨g, k, none⟩ g' _ (by show g' ≠ g; intro e2; subst e2; exact h.r2.ne_of e hT rfl)).trans e
theorem ins_set (l : Names) (k : Nat) (x y : List UInt8) (hk : k ≤ l.length) : (insL l k x).set k y = insL l k y := by
  unfold insL
  rw [List.set_append, if_neg (by simp; omega)]
  have : k - (l.take k).length = 0 := by simp; omega
  rw [this]; rfl
set_option maxRecDepth 100000 in
set_option maxHeartbeats 4000000 in
theorem write_any {w : World} {B fb : Nat} {v1 v2 v3 : Value} {q : Int} {na : Nat} {D : DiskL} (h : DiskV w B fb v1 v2 v3 q na D) (hB : B ≤ w.heap.size) (hl : D.ns.length ≤ 900) (hs : D.ns.length = D.ds.length) (x d : List UInt8) :
    Calls Tryz.prog 69 #[.pointer (some ⟨fb, 0, none⟩), .string (S x), .string (S d)] w fun e w' => e = .returned (.tuple #[]) ∧ DiskAt w' B fb q na (wrD D x d) ∧ Below B w w' ∧ KeepD w w' := by
  have HF := Lib.hid (td_find_any h (by omega) x)
  have HW := Lib.hid (show wrD D x d = if srchB D.ns x = true then ⟨D.ns, D.ds.set (srchI D.ns x) d⟩ else ⟨insL D.ns (srchI D.ns x) x, insL D.ds (srchI D.ns x) d⟩ from rfl)
  have HL := Lib.hid (fun hb => srchB_lt (ns := D.ns) (x := x) hb)
  have hk := srchI_le D.ns x
  generalize srchI D.ns x = k at HF HW HL hk
  obtain ⟨is, his⟩ : ∃ is, srchB D.ns x = is := ⟨_, rfl⟩
  rw [his] at HF HW HL
  clear his
  have HV := Lib.hid h
  have HSm := Lib.hid hs
  clear h hs
  go_enter Tryz.func69, Tryz.ntmps69
  go_wp2_with fail
  refine HF.out.mono ?_
  rintro e w1 ⟨rfl, qq, hw1⟩
  have HV1 := Lib.hid (show DiskV w1 B fb v1 v2 v3 q na D by rw [hw1]; exact HV.out.below (below_drewN qq))
  have HB1 := Lib.hid (show Below B w w1 by rw [hw1]; exact below_drewN qq)
  have HK1 := Lib.hid (show KeepD w w1 by rw [hw1]; exact KeepD.below (below_drewN qq))
  have hB1 := Nat.le_trans hB HB1.out.size
  clear hw1 HV HF
  cases is with
  | true =>
    have hk2 : k < D.ds.length := by rw [← HSm.out]; exact HL.out rfl
    have HW2 := Lib.hid (HW.out.trans (if_pos rfl))
    obtain ⟨g, c, hv, _, hg, hc, hf⟩ := HV1.out.r2.at k hk2
    subst hv
    obtain ⟨_, c1, _⟩ := HV1.out.cells
    obtain ⟨HP1, HP2, HP3⟩ := HV1.out.put2 k hk2 d
    have HKP := Lib.hid (HK1.out.trans HP3)
    have HP := Lib.hid HP1
    have HPB := Lib.hid (HB1.out.trans HP2)
    have hki : (k : Int) < (D.ds.length : Int) := by omega
    clear HP1 HP2 HP3 HW HL
    go_wp2
    go_end0
    exact ⟨rfl, ⟨_, _, _, by rw [HW2.out]; exact HP.out⟩, HPB.out, HKP.out⟩
  | false =>
    have HW2 := Lib.hid (HW.out.trans (if_neg (by decide)))
    have hkd : k ≤ D.ds.length := by rw [← HSm.out]; exact hk
    have h1000 : D.ns.length ≤ 1000 := by omega
    have h1001 : D.ds.length ≤ 1000 := by rw [← HSm.out]; omega
    obtain ⟨a1, n1, rfl⟩ := HV1.out.r1.form
    obtain ⟨c0, _⟩ := HV1.out.cells
    -- the name
    have hbA : Below w1.heap.size w1 (w1.alloc (.cells #[.string (S x)] tStr)) := (Below.refl _ _).alloc (Nat.le_refl _) _
    have HA := Lib.hid (HV1.out.below hbA)
    have HBA := Lib.hid (show Below B w (w1.alloc (.cells #[.string (S x)] tStr)) from HB1.out.trans ((Below.refl B w1).alloc hB1 _))
    have HI := Lib.hid (insert_any HA.out.r1 h1000 (Nat.le_trans hB HBA.out.size) k hk w1.heap.size x (heap_alloc_new w1 _) (by intro e; have := (HV1.out.r1.lt _ e).2; omega))
    clear hbA HW HL
    go_wp2_with fail
    refine HI.out.mono ?_
    rintro e w2 ⟨v1', rfl, hr, hg, ho⟩
    obtain ⟨L1, hL1⟩ : ∃ L1, insL D.ns k x = L1 := ⟨_, rfl⟩
    rw [hL1] at hr
    have HL1 := Lib.hid hL1
    clear hL1
    obtain ⟨a2, n2, rfl⟩ := hr.form
    obtain ⟨hd, hb, z0, z1, hkt⟩ := HA.out.set1 (Nat.le_trans hB HBA.out.size) hr hg ho
    have HK3 := Lib.hid ((HK1.out.trans (KeepD.below ((Below.refl _ _).alloc (Nat.le_refl _) _))).trans hkt)
    clear hkt
    have HV3 := Lib.hid hd
    have HB3 := Lib.hid (HBA.out.trans hb)
    clear hr hg ho hd hb HI HA HBA c0 HV1 HB1 hB1
    generalize hw3 : w2.setCell ⟨fb, 0, none⟩ (.slice a2 L1.length n2) = w3 at HV3 HB3 HK3
    have hB3 := Nat.le_trans hB HB3.out.size
    obtain ⟨a3, n3, hv2⟩ := HV3.out.r2.form
    replace hv2 : v2 = .slice a3 D.ds.length n3 := hv2
    subst hv2
    obtain ⟨_, c1, _⟩ := HV3.out.cells
    have hbA : Below w3.heap.size w3 (w3.alloc (.cells #[.string (S [])] tStr)) := (Below.refl _ _).alloc (Nat.le_refl _) _
    have HA := Lib.hid (HV3.out.below hbA)
    have HBA := Lib.hid (show Below B w (w3.alloc (.cells #[.string (S [])] tStr)) from HB3.out.trans ((Below.refl B w3).alloc hB3 _))
    have HI := Lib.hid (insert_any HA.out.r2 h1001 (Nat.le_trans hB HBA.out.size) k hkd w3.heap.size [] (heap_alloc_new w3 _) (by intro e; have := (HV3.out.r2.lt _ e).2; omega))
    clear hbA
    go_upto_region 3 with fail
    try rw [hw3]
    clear hw3 z0 z1
    go_wp2_with fail
    refine HI.out.mono ?_
    rintro e w4 ⟨v2', rfl, hr, hg, ho⟩
    obtain ⟨L2, hL2⟩ : ∃ L2, insL D.ds k ([] : List UInt8) = L2 := ⟨_, rfl⟩
    rw [hL2] at hr
    obtain ⟨hd, hb, z0, z1, hkt⟩ := HA.out.set2 (Nat.le_trans hB HBA.out.size) hr hg ho
    have HK5 := Lib.hid ((HK3.out.trans (KeepD.below ((Below.refl _ _).alloc (Nat.le_refl _) _))).trans hkt)
    clear hkt
    have hkl : k < L2.length := by rw [← hL2, insL_len _ _ _ hkd]; omega
    obtain ⟨g5, c5, hv5, _, hg5, hc5, hf5⟩ := hd.r2.at k hkl
    replace hv5 : v2' = .slice (some ⟨g5, 0, none⟩) L2.length c5 := hv5
    subst hv5
    have HV5 := Lib.hid hd
    have HB5 := Lib.hid (HBA.out.trans hb)
    clear hr hg ho hd hb HI HA HBA c1 HV3 HB3 hB3
    generalize hw5 : w4.setCell ⟨fb, 1, none⟩ (.slice (some ⟨g5, 0, none⟩) L2.length c5) = w5 at HV5 HB5 HK5 hc5 hf5 hg5
    obtain ⟨_, c1, _⟩ := HV5.out.cells
    obtain ⟨HP1, HP2, HP3⟩ := DiskV.put2 (D := ⟨L1, L2⟩) HV5.out k hkl d
    have HKP := Lib.hid (HK5.out.trans HP3)
    have HP := Lib.hid HP1
    have HPB := Lib.hid (HB5.out.trans HP2)
    have hki : (k : Int) < (L2.length : Int) := by omega
    have hSet := Lib.hid (show L2.set k d = insL D.ds k d by rw [← hL2]; exact ins_set D.ds k [] d hkd)
    clear hL2
    clear HP1 HP2 HP3
    go_upto_region 4 with fail
    try rw [hw5]
    clear hw5 z0 z1
    go_wp2
    go_end0
    exact ⟨rfl, ⟨_, _, _, by rw [HW2.out, ← hSet.out, HL1.out]; exact HP.out⟩, HPB.out, HKP.out⟩
set_option maxRecDepth 100000 in
set_option maxHeartbeats 4000000 in
theorem remove_any {w : World} {B fb : Nat} {v1 v2 v3 : Value} {q : Int} {na : Nat} {D : DiskL} (h : DiskV w B fb v1 v2 v3 q na D) (hB : B ≤ w.heap.size) (hl : D.ns.length ≤ 900) (hs : D.ns.length = D.ds.length) (x : List UInt8) :
    Calls Tryz.prog 106 #[.pointer (some ⟨fb, 0, none⟩), .string (S x)] w fun e w' => e = .returned (.tuple #[]) ∧ DiskAt w' B fb q na (rmD D x) ∧ Below B w w' ∧ KeepD w w' := by
  have HF := Lib.hid (td_find_any h (by omega) x)
  have HW := Lib.hid (show rmD D x = if srchB D.ns x = true then ⟨D.ns.eraseIdx (srchI D.ns x), D.ds.eraseIdx (srchI D.ns x)⟩ else D from rfl)
  have HL := Lib.hid (fun hb => srchB_lt (ns := D.ns) (x := x) hb)
  generalize srchI D.ns x = k at HF HW HL
  obtain ⟨is, his⟩ : ∃ is, srchB D.ns x = is := ⟨_, rfl⟩
  rw [his] at HF HW HL
  clear his
  have HV := Lib.hid h
  have HSm := Lib.hid hs
  clear h hs
  go_enter Tryz.func106, Tryz.ntmps106
  go_wp2_with fail
  refine HF.out.mono ?_
  rintro e w1 ⟨rfl, qq, hw1⟩
  have HV1 := Lib.hid (show DiskV w1 B fb v1 v2 v3 q na D by rw [hw1]; exact HV.out.below (below_drewN qq))
  have HB1 := Lib.hid (show Below B w w1 by rw [hw1]; exact below_drewN qq)
  have HK1 := Lib.hid (show KeepD w w1 by rw [hw1]; exact KeepD.below (below_drewN qq))
  have hB1 := Nat.le_trans hB HB1.out.size
  clear hw1 HV HF
  cases is with
  | false =>
    have HW2 := Lib.hid (HW.out.trans (if_neg (by decide)))
    clear HW HL
    go_wp2
    go_end0
    exact ⟨rfl, ⟨_, _, _, by rw [HW2.out]; exact HV1.out⟩, HB1.out, HK1.out⟩
  | true =>
    have HW2 := Lib.hid (HW.out.trans (if_pos rfl))
    have hk : k < D.ns.length := HL.out rfl
    have hk2 : k < D.ds.length := by rw [← HSm.out]; exact hk
    have h1001 : D.ds.length ≤ 1000 := by rw [← HSm.out]; omega
    have HI := Lib.hid (delete_any HV1.out.r1 (by omega) k hk)
    obtain ⟨a1, n1, rfl⟩ := HV1.out.r1.form
    obtain ⟨c0, _⟩ := HV1.out.cells
    have hwk : IntKind.i64.wrap ((k : Int) + 1) = ((k + 1 : Nat) : Int) := by rw [IntKind.wrap_i64] <;> omega
    clear HW HL
    go_wp2_with fail
    refine HI.out.mono ?_
    rintro e w2 ⟨v1', rfl, hr, hg, ho⟩
    obtain ⟨L1, hL1⟩ : ∃ L1, D.ns.eraseIdx k = L1 := ⟨_, rfl⟩
    rw [hL1] at hr HW2
    clear hL1
    obtain ⟨a2, n2, rfl⟩ := hr.form
    obtain ⟨hd, hb, z0, z1, hkt⟩ := HV1.out.set1 hB1 hr hg (.inl ho)
    have HK3 := Lib.hid (HK1.out.trans hkt)
    clear hkt
    have HV3 := Lib.hid hd
    have HB3 := Lib.hid (HB1.out.trans hb)
    clear hr hg ho hd hb HI c0 HV1 HB1 hB1
    generalize hw3 : w2.setCell ⟨fb, 0, none⟩ (.slice a2 L1.length n2) = w3 at HV3 HB3 HK3
    have hB3 := Nat.le_trans hB HB3.out.size
    have HI := Lib.hid (delete_any HV3.out.r2 h1001 k hk2)
    obtain ⟨a3, n3, hv2⟩ := HV3.out.r2.form
    replace hv2 : v2 = .slice a3 D.ds.length n3 := hv2
    subst hv2
    obtain ⟨_, c1, _⟩ := HV3.out.cells
    go_upto_region 3 with fail
    try rw [hw3]
    clear hw3 z0 z1
    go_wp2_with fail
    refine HI.out.mono ?_
    rintro e w4 ⟨v2', rfl, hr, hg, ho⟩
    obtain ⟨L2, hL2⟩ : ∃ L2, D.ds.eraseIdx k = L2 := ⟨_, rfl⟩
    replace hr : RowS w4 B v2' (D.ds.eraseIdx k) := hr
    rw [hL2] at hr HW2
    clear hL2
    obtain ⟨a4, n4, rfl⟩ := hr.form
    obtain ⟨hd, hb, z0, z1, hkt⟩ := HV3.out.set2 hB3 hr hg (.inl ho)
    have HK5 := Lib.hid (HK3.out.trans hkt)
    clear hkt
    have HV5 := Lib.hid hd
    have HB5 := Lib.hid (HB3.out.trans hb)
    clear hr hg ho hd hb HI c1 HV3 HB3 hB3
    go_wp2
    go_end0
    exact ⟨rfl, ⟨_, _, _, by rw [HW2.out]; exact HV5.out⟩, HB5.out, HK5.out⟩
end Go.Proofs.YtkdplkhnkimhpaaGreatDoor
namespace Go.Proofs.YtkdplkhnkimhpaaGreatDoor
open Go.RowKit

/-- the acts' row is another one -/
theorem DiskV.set3 {w : World} {B fb : Nat} {v1 v2 v3 : Value} {q : Int} {na : Nat} {D : DiskL} (h : DiskV w B fb v1 v2 v3 q na D) {w2 : World} {v3' : Value} {n' : Nat} {xs' : List Value} (hB : B ≤ w.heap.size) (hr : w2.ownsRow B tAct 4 v3' n' xs') (hn' : n' ≤ na + 1) (hg : w.grownBy w2 v3.ownBlock) (ho : v3'.ownBlock = v3.ownBlock ∨ ∃ g, v3'.ownBlock = some g ∧ w.heap.size ≤ g) :
    DiskV (w2.setCell ⟨fb, 2, none⟩ v3') B fb v1 v2 v3' q (na + 1) D ∧ Below B w (w2.setCell ⟨fb, 2, none⟩ v3') ∧ w2.cell? ⟨fb, 2, none⟩ = some v3 ∧ w2.frozen? ⟨fb, 2, none⟩ = false ∧ KeepE w (w2.setCell ⟨fb, 2, none⟩ v3') := by
  have hfb1 := h.r1.ne_of h.blk (by decide)
  have hfb2 := h.r2.ne_of h.blk (by decide)
  obtain ⟨n, xs, hn, ho3⟩ := h.r3
  have hfb3 := own_neT ho3 h.blk (by decide)
  have hblk2 : w2.heap[fb]? = some (.cells #[v1, v2, v3, .int .i64 q] tFiles (0, 0)) := (hg.block fb h.lt (fun e => hfb3 e.symm)).trans h.blk
  have hfb3' : v3'.ownBlock ≠ some fb := by
    rcases ho with e | ⟨g, e, hge⟩
    · rw [e]; exact hfb3
    · rw [e]; intro he; cases he; have := h.lt; omega
  have hx : ∀ {v : Value} {l : Names}, RowS w B v l → ∀ g, v.ownBlock = some g → v3.ownBlock ≠ some g := by
    intro v l hrow g hv h3
    rcases ho3.2 with ⟨e, _⟩ | ⟨g3, c3, cur3, e, _, e5, _⟩
    · rw [e] at h3; cases h3
    · rw [e] at h3; cases h3
      exact hrow.ne_of e5 (by decide) hv
  refine ⟨⟨Go.heap_setCell_same w2 fb 2 _ _ v3' hblk2, h.ge, ?_, ?_, ⟨n', xs', hn', own_keepB hr fun g hv => heap_setCell_other w2 ⟨fb, 2, none⟩ g v3' (by show g ≠ fb; intro e; rw [e] at hv; exact hfb3' hv)⟩, h.apart⟩, ?_, by rw [cell_of_row _ _ _ _ _ _ hblk2]; rfl, frozen_of_row w2 fb 2 _ _ hblk2, fun T h1 h2 h3 => (KeepT.grown hg ho3 (fun e => h3 e.symm)).trans (KeepT.setCell hblk2 (fun e => h2 e.symm) 2 v3')⟩
  · exact h.r1.keep fun g hv => (heap_setCell_other w2 ⟨fb, 2, none⟩ g v3' (by show g ≠ fb; intro e; rw [e] at hv; exact hfb1 hv)).trans (hg.block g (h.r1.lt g hv).2 (fun e => hx h.r1 g hv e.symm))
  · exact h.r2.keep fun g hv => (heap_setCell_other w2 ⟨fb, 2, none⟩ g v3' (by show g ≠ fb; intro e; rw [e] at hv; exact hfb2 hv)).trans (hg.block g (h.r2.lt g hv).2 (fun e => hx h.r2 g hv e.symm))
  · exact ((Below.refl B w).grown hg hB (fun k hk => (ho3.lt k hk).1)).setCell (p := ⟨fb, 2, none⟩) h.ge _
def actZ : Value := .agg #[.int .i64 0, .string (S []), .string (S []), .string (S [])]
theorem cells4_new (w : World) (a b c d : Value) (t : TypeId) : ∀ j u, [a, b, c, d][j]? = some u → (w.alloc (.cells #[a, b, c, d] t)).cell? ((⟨w.heap.size, 0, none⟩ : Addr).add j) = some u := by
  intro j u h
  rw [Addr.add_lit, Nat.zero_add, cell_of_row _ _ _ _ _ _ (heap_alloc_new w _)]
  simpa using h
/-- a box with an act -/
def ActAt (w : World) (bx : Nat) (k : Int) (x y d : List UInt8) : Prop := w.heap[bx]? = some (.cells #[.int .i64 k, .string (S x), .string (S y), .string (S d)] tAct (0, 0))
theorem ActAt.cells {w : World} {bx : Nat} {k : Int} {x y d : List UInt8} (h : ActAt w bx k x y d) : w.cell? ⟨bx, 0, none⟩ = some (.int .i64 k) ∧ w.cell? ⟨bx, 1, none⟩ = some (.string (S x)) ∧ w.cell? ⟨bx, 2, none⟩ = some (.string (S y)) ∧ w.cell? ⟨bx, 3, none⟩ = some (.string (S d)) ∧ bx < w.heap.size := by
  refine ⟨?_, ?_, ?_, ?_, (Array.getElem?_eq_some_iff.1 h).1⟩ <;> rw [cell_of_row _ _ _ _ _ _ h] <;> rfl
theorem ActAt.keep {w w' : World} {bx : Nat} {k : Int} {x y d : List UInt8} (h : ActAt w bx k x y d) (hk : KeepT tAct w w') : ActAt w' bx k x y d := hk _ _ h
set_option maxRecDepth 100000 in
set_option maxHeartbeats 4000000 in
theorem doW_any {w : World} {B fb : Nat} {q : Int} {na : Nat} {D : DiskL} (h : DiskAt w B fb q na D) (hB : B ≤ w.heap.size) (hna : na ≤ 1000) (n : Nat) (hn : n ≤ 800) (hs : Small D n) (x y d : List UInt8) :
    Calls Tryz.prog 71 #[.pointer (some ⟨fb, 0, none⟩), .agg #[.int .i64 1, .string (S x), .string (S y), .string (S d)]] w fun e w' => e = .returned (.tuple #[]) ∧ DiskAt w' B fb q (na + 1) (wrD D x d) ∧ Below B w w' ∧ KeepE w w' := by
  obtain ⟨i0, hi0, hz0, hz1, hz2⟩ := info_parts (show (Tryz.prog.info? tAct).map (fun i => (i.zero, i.size, i.bytes)) = some (some actZ, 4, 56) by kernel_rfl)
  obtain ⟨v1, v2, v3, h⟩ := h
  have hb0 : Below w.heap.size w (w.alloc (.cells #[.int .i64 1, .string (S x), .string (S y), .string (S d)] tAct)) := (Below.refl _ _).alloc (Nat.le_refl _) _
  have HV := Lib.hid (h.below hb0)
  have HB := Lib.hid (show Below B w (w.alloc (.cells #[.int .i64 1, .string (S x), .string (S y), .string (S d)] tAct)) from (Below.refl B w).alloc hB _)
  have HA := Lib.hid (show ActAt (w.alloc (.cells #[.int .i64 1, .string (S x), .string (S y), .string (S d)] tAct)) w.heap.size 1 x y d from heap_alloc_new w _)
  have HK := Lib.hid (KeepE.below hb0)
  have hB0 := Nat.le_trans hB HB.out.size
  have HSm := Lib.hid hs
  clear h hb0 hs
  go_enter Tryz.func71, Tryz.ntmps71
  go_upto_region 1 with fail
  generalize hw0 : w.alloc (.cells #[.int .i64 1, .string (S x), .string (S y), .string (S d)] tAct) = w0 at HV HB HA HK hB0
  generalize hbx : w.heap.size = bx at HA
  try rw [hw0]
  try rw [hbx]
  clear hw0 hbx
  obtain ⟨e0, e1, e2, e3, hbl⟩ := HA.out.cells
  go_wp2_with fail
  refine (write_any HV.out hB0 (Nat.le_trans HSm.out.few (by omega)) HSm.out.same x d).mono ?_
  rintro e u1 ⟨rfl, ⟨v11, v21, v31, hd⟩, hb, hk⟩
  have HK1 := Lib.hid (HK.out.trans hk.e)
  have HV1 := Lib.hid hd
  have HB1 := Lib.hid (HB.out.trans hb)
  have HA1 := Lib.hid (HA.out.keep (hk tAct (by decide) (by decide)))
  have hC1 := Nat.le_trans hB HB1.out.size
  clear hd hb hk HV HB HA hB0 e0 e1 e2 e3 hbl
  obtain ⟨e0, e1, e2, e3, hbl⟩ := HA1.out.cells
  obtain ⟨nn, xs, hnn, hown⟩ := HV1.out.r3
  obtain ⟨av, cv, hve⟩ := ownsRow_form hown
  rw [hve] at HV1 hown
  have HO := Lib.hid hown
  have HV9 := Lib.hid HV1.out
  obtain ⟨_, _, c2, _, f2⟩ := HV1.out.cells
  have c2f := f2 2
  have hfl := HV1.out.lt
  have HBd := Lib.hid (fun o : Obj => (Below.alloc (below_drew2 (Below.refl u1.heap.size u1)) (Nat.le_refl _) o : Below u1.heap.size u1 (u1.drew.alloc o)))
  clear hown hve f2 HV1 HA1
  go_upto_region 10 with fail
  go_region_law (refine step_append_lies _ (by rfl) (.tmp 44) (.tmp 46) 50 (by rfl) B tAct i0 actZ 4 56 Tryz.underlying50 hi0 hz0 hz1 hz2 (by rfl) (by decide) (.slice av nn cv) nn xs (by rfl) (ownsRow_below HO.out (HBd.out _)) ⟨_, 0, none⟩ 1 1 [.int .i64 1, .string (S x), .string (S y), .string (S d)] (by rfl) (by rfl) (cells4_new _ _ _ _ _ _) (by simp [Value.oneCell']) (by decide) (by unfold maxLen; omega) (by omega) (by simp; omega) _ (by rfl) ?_; intro g' c' w9 hown9 hgr9 hat9 _; have hs3 := (HV9.out.below (HBd.out _)).set3 (v3' := .slice (some ⟨g', 0, none⟩) (nn + 1) c') (by simp; omega) hown9 (by omega) hgr9 (by rcases hat9 with e | e; exact .inl e.symm; exact .inr ⟨g', rfl, by rw [e]; exact Nat.le_refl _⟩); obtain ⟨HD9, HE9, z0, z1, hk9⟩ := hs3; have HK9 := Lib.hid (HK1.out.trans ((KeepE.below (HBd.out _)).trans hk9)); have HF9 := Lib.hid HD9; have HG9 := Lib.hid (HB1.out.trans ((((HBd.out _).mono hC1).trans HE9))); clear hown9 hgr9 hat9 HD9 HE9 hk9)
  all_goals go_wp2
  all_goals go_end0
  all_goals exact ⟨rfl, ⟨_, _, _, HF9.out⟩, HG9.out, HK9.out⟩
set_option maxRecDepth 100000 in
set_option maxHeartbeats 4000000 in
theorem doS_any {w : World} {B fb : Nat} {q : Int} {na : Nat} {D : DiskL} (h : DiskAt w B fb q na D) (hB : B ≤ w.heap.size) (hna : na ≤ 1000) (n : Nat) (hn : n ≤ 800) (hs : Small D n) (x y d : List UInt8) :
    Calls Tryz.prog 71 #[.pointer (some ⟨fb, 0, none⟩), .agg #[.int .i64 2, .string (S x), .string (S y), .string (S d)]] w fun e w' => e = .returned (.tuple #[]) ∧ DiskAt w' B fb q (na + 1) D ∧ Below B w w' ∧ KeepE w w' := by
  obtain ⟨i0, hi0, hz0, hz1, hz2⟩ := info_parts (show (Tryz.prog.info? tAct).map (fun i => (i.zero, i.size, i.bytes)) = some (some actZ, 4, 56) by kernel_rfl)
  obtain ⟨v1, v2, v3, h⟩ := h
  have hb0 : Below w.heap.size w (w.alloc (.cells #[.int .i64 2, .string (S x), .string (S y), .string (S d)] tAct)) := (Below.refl _ _).alloc (Nat.le_refl _) _
  have HV := Lib.hid (h.below hb0)
  have HB := Lib.hid (show Below B w (w.alloc (.cells #[.int .i64 2, .string (S x), .string (S y), .string (S d)] tAct)) from (Below.refl B w).alloc hB _)
  have HA := Lib.hid (show ActAt (w.alloc (.cells #[.int .i64 2, .string (S x), .string (S y), .string (S d)] tAct)) w.heap.size 2 x y d from heap_alloc_new w _)
  have HK := Lib.hid (KeepE.below hb0)
  have hB0 := Nat.le_trans hB HB.out.size
  have HSm := Lib.hid hs
  clear h hb0 hs
  go_enter Tryz.func71, Tryz.ntmps71
  go_upto_region 1 with fail
  generalize hw0 : w.alloc (.cells #[.int .i64 2, .string (S x), .string (S y), .string (S d)] tAct) = w0 at HV HB HA HK hB0
  generalize hbx : w.heap.size = bx at HA
  try rw [hw0]
  try rw [hbx]
  clear hw0 hbx
  obtain ⟨e0, e1, e2, e3, hbl⟩ := HA.out.cells
  obtain ⟨nn, xs, hnn, hown⟩ := HV.out.r3
  obtain ⟨av, cv, hve⟩ := ownsRow_form hown
  rw [hve] at HV hown
  have HO := Lib.hid hown
  have HV9 := Lib.hid HV.out
  obtain ⟨_, _, c2, _, f2⟩ := HV.out.cells
  have c2f := f2 2
  have hfl := HV.out.lt
  have HBd := Lib.hid (fun o : Obj => (Below.alloc (below_drew2 (Below.refl w0.heap.size w0)) (Nat.le_refl _) o : Below w0.heap.size w0 (w0.drew.alloc o)))
  clear hown hve f2 HV HA
  go_upto_region 10 with fail
  go_region_law (refine step_append_lies _ (by rfl) (.tmp 44) (.tmp 46) 50 (by rfl) B tAct i0 actZ 4 56 Tryz.underlying50 hi0 hz0 hz1 hz2 (by rfl) (by decide) (.slice av nn cv) nn xs (by rfl) (ownsRow_below HO.out (HBd.out _)) ⟨_, 0, none⟩ 1 1 [.int .i64 2, .string (S x), .string (S y), .string (S d)] (by rfl) (by rfl) (cells4_new _ _ _ _ _ _) (by simp [Value.oneCell']) (by decide) (by unfold maxLen; omega) (by omega) (by simp; omega) _ (by rfl) ?_; intro g' c' w9 hown9 hgr9 hat9 _; have hs3 := (HV9.out.below (HBd.out _)).set3 (v3' := .slice (some ⟨g', 0, none⟩) (nn + 1) c') (by simp; omega) hown9 (by omega) hgr9 (by rcases hat9 with e | e; exact .inl e.symm; exact .inr ⟨g', rfl, by rw [e]; exact Nat.le_refl _⟩); obtain ⟨HD9, HE9, z0, z1, hk9⟩ := hs3; have HK9 := Lib.hid (HK.out.trans ((KeepE.below (HBd.out _)).trans hk9)); have HF9 := Lib.hid HD9; have HG9 := Lib.hid (HB.out.trans ((((HBd.out _).mono hB0).trans HE9))); clear hown9 hgr9 hat9 HD9 HE9 hk9)
  all_goals go_wp2
  all_goals go_end0
  all_goals exact ⟨rfl, ⟨_, _, _, HF9.out⟩, HG9.out, HK9.out⟩
set_option maxRecDepth 100000 in
set_option maxHeartbeats 4000000 in
theorem doN_any {w : World} {B fb : Nat} {q : Int} {na : Nat} {D : DiskL} (h : DiskAt w B fb q na D) (hB : B ≤ w.heap.size) (hna : na ≤ 1000) (n : Nat) (hn : n ≤ 800) (hs : Small D n) (x y d : List UInt8) :
    Calls Tryz.prog 71 #[.pointer (some ⟨fb, 0, none⟩), .agg #[.int .i64 4, .string (S x), .string (S y), .string (S d)]] w fun e w' => e = .returned (.tuple #[]) ∧ DiskAt w' B fb q (na + 1) D ∧ Below B w w' ∧ KeepE w w' := by
  obtain ⟨i0, hi0, hz0, hz1, hz2⟩ := info_parts (show (Tryz.prog.info? tAct).map (fun i => (i.zero, i.size, i.bytes)) = some (some actZ, 4, 56) by kernel_rfl)
  obtain ⟨v1, v2, v3, h⟩ := h
  have hb0 : Below w.heap.size w (w.alloc (.cells #[.int .i64 4, .string (S x), .string (S y), .string (S d)] tAct)) := (Below.refl _ _).alloc (Nat.le_refl _) _
  have HV := Lib.hid (h.below hb0)
  have HB := Lib.hid (show Below B w (w.alloc (.cells #[.int .i64 4, .string (S x), .string (S y), .string (S d)] tAct)) from (Below.refl B w).alloc hB _)
  have HA := Lib.hid (show ActAt (w.alloc (.cells #[.int .i64 4, .string (S x), .string (S y), .string (S d)] tAct)) w.heap.size 4 x y d from heap_alloc_new w _)
  have HK := Lib.hid (KeepE.below hb0)
  have hB0 := Nat.le_trans hB HB.out.size
  have HSm := Lib.hid hs
  clear h hb0 hs
  go_enter Tryz.func71, Tryz.ntmps71
  go_upto_region 1 with fail
  generalize hw0 : w.alloc (.cells #[.int .i64 4, .string (S x), .string (S y), .string (S d)] tAct) = w0 at HV HB HA HK hB0
  generalize hbx : w.heap.size = bx at HA
  try rw [hw0]
  try rw [hbx]
  clear hw0 hbx
  obtain ⟨e0, e1, e2, e3, hbl⟩ := HA.out.cells
  obtain ⟨nn, xs, hnn, hown⟩ := HV.out.r3
  obtain ⟨av, cv, hve⟩ := ownsRow_form hown
  rw [hve] at HV hown
  have HO := Lib.hid hown
  have HV9 := Lib.hid HV.out
  obtain ⟨_, _, c2, _, f2⟩ := HV.out.cells
  have c2f := f2 2
  have hfl := HV.out.lt
  have HBd := Lib.hid (fun o : Obj => (Below.alloc (below_drew2 (Below.refl w0.heap.size w0)) (Nat.le_refl _) o : Below w0.heap.size w0 (w0.drew.alloc o)))
  clear hown hve f2 HV HA
  go_upto_region 10 with fail
  go_region_law (refine step_append_lies _ (by rfl) (.tmp 44) (.tmp 46) 50 (by rfl) B tAct i0 actZ 4 56 Tryz.underlying50 hi0 hz0 hz1 hz2 (by rfl) (by decide) (.slice av nn cv) nn xs (by rfl) (ownsRow_below HO.out (HBd.out _)) ⟨_, 0, none⟩ 1 1 [.int .i64 4, .string (S x), .string (S y), .string (S d)] (by rfl) (by rfl) (cells4_new _ _ _ _ _ _) (by simp [Value.oneCell']) (by decide) (by unfold maxLen; omega) (by omega) (by simp; omega) _ (by rfl) ?_; intro g' c' w9 hown9 hgr9 hat9 _; have hs3 := (HV9.out.below (HBd.out _)).set3 (v3' := .slice (some ⟨g', 0, none⟩) (nn + 1) c') (by simp; omega) hown9 (by omega) hgr9 (by rcases hat9 with e | e; exact .inl e.symm; exact .inr ⟨g', rfl, by rw [e]; exact Nat.le_refl _⟩); obtain ⟨HD9, HE9, z0, z1, hk9⟩ := hs3; have HK9 := Lib.hid (HK.out.trans ((KeepE.below (HBd.out _)).trans hk9)); have HF9 := Lib.hid HD9; have HG9 := Lib.hid (HB.out.trans ((((HBd.out _).mono hB0).trans HE9))); clear hown9 hgr9 hat9 HD9 HE9 hk9)
  all_goals go_wp2
  all_goals go_end0
  all_goals exact ⟨rfl, ⟨_, _, _, HF9.out⟩, HG9.out, HK9.out⟩
set_option maxRecDepth 100000 in
set_option maxHeartbeats 4000000 in
theorem doR_any {w : World} {B fb : Nat} {q : Int} {na : Nat} {D : DiskL} (h : DiskAt w B fb q na D) (hB : B ≤ w.heap.size) (hna : na ≤ 1000) (n : Nat) (hn : n ≤ 800) (hs : Small D n) (x y d : List UInt8) :
    Calls Tryz.prog 71 #[.pointer (some ⟨fb, 0, none⟩), .agg #[.int .i64 3, .string (S x), .string (S y), .string (S d)]] w fun e w' => e = .returned (.tuple #[]) ∧ DiskAt w' B fb q (na + 1) (wrD (rmD D x) y (rdD D x)) ∧ Below B w w' ∧ KeepE w w' := by
  obtain ⟨i0, hi0, hz0, hz1, hz2⟩ := info_parts (show (Tryz.prog.info? tAct).map (fun i => (i.zero, i.size, i.bytes)) = some (some actZ, 4, 56) by kernel_rfl)
  obtain ⟨v1, v2, v3, h⟩ := h
  have hb0 : Below w.heap.size w (w.alloc (.cells #[.int .i64 3, .string (S x), .string (S y), .string (S d)] tAct)) := (Below.refl _ _).alloc (Nat.le_refl _) _
  have HV := Lib.hid (h.below hb0)
  have HB := Lib.hid (show Below B w (w.alloc (.cells #[.int .i64 3, .string (S x), .string (S y), .string (S d)] tAct)) from (Below.refl B w).alloc hB _)
  have HA := Lib.hid (show ActAt (w.alloc (.cells #[.int .i64 3, .string (S x), .string (S y), .string (S d)] tAct)) w.heap.size 3 x y d from heap_alloc_new w _)
  have HK := Lib.hid (KeepE.below hb0)
  have hB0 := Nat.le_trans hB HB.out.size
  have HSm := Lib.hid hs
  clear h hb0 hs
  go_enter Tryz.func71, Tryz.ntmps71
  go_upto_region 1 with fail
  generalize hw0 : w.alloc (.cells #[.int .i64 3, .string (S x), .string (S y), .string (S d)] tAct) = w0 at HV HB HA HK hB0
  generalize hbx : w.heap.size = bx at HA
  try rw [hw0]
  try rw [hbx]
  clear hw0 hbx
  obtain ⟨e0, e1, e2, e3, hbl⟩ := HA.out.cells
  go_wp2_with fail
  refine (read_any HV.out (Nat.le_trans HSm.out.few (by omega)) HSm.out.same x).mono ?_
  rintro e u1 ⟨rfl, qq, hq⟩
  have HK1 := Lib.hid (show KeepE w u1 by rw [hq]; exact HK.out.trans (KeepE.below (below_drewN qq)))
  have HV1 := Lib.hid (show DiskV u1 B fb v1 v2 v3 q na D by rw [hq]; exact HV.out.below (below_drewN qq))
  have HB1 := Lib.hid (show Below B w u1 by rw [hq]; exact HB.out.trans (below_drewN qq))
  have HA1 := Lib.hid (show ActAt u1 bx 3 x y d by rw [hq]; exact HA.out)
  have hC1 := Nat.le_trans hB HB1.out.size
  clear hq HV HB HA hB0 e0 e1 e2 e3 hbl
  obtain ⟨e0, e1, e2, e3, hbl⟩ := HA1.out.cells
  go_wp2_with fail
  refine (remove_any HV1.out hC1 (Nat.le_trans HSm.out.few (by omega)) HSm.out.same x).mono ?_
  rintro e u2 ⟨rfl, ⟨v12, v22, v32, hd⟩, hb, hk⟩
  have HK2 := Lib.hid (HK1.out.trans hk.e)
  have HV2 := Lib.hid hd
  have HB2 := Lib.hid (HB1.out.trans hb)
  have HA2 := Lib.hid (HA1.out.keep (hk tAct (by decide) (by decide)))
  have hC2 := Nat.le_trans hB HB2.out.size
  clear hd hb hk HV1 HB1 HA1 hC1 e0 e1 e2 e3 hbl
  obtain ⟨e0, e1, e2, e3, hbl⟩ := HA2.out.cells
  go_wp2_with fail
  refine (write_any HV2.out hC2 (Nat.le_trans (HSm.out.rm x).few (by omega)) (HSm.out.rm x).same y (rdD D x)).mono ?_
  rintro e u3 ⟨rfl, ⟨v13, v23, v33, hd⟩, hb, hk⟩
  have HK3 := Lib.hid (HK2.out.trans hk.e)
  have HV3 := Lib.hid hd
  have HB3 := Lib.hid (HB2.out.trans hb)
  have HA3 := Lib.hid (HA2.out.keep (hk tAct (by decide) (by decide)))
  have hC3 := Nat.le_trans hB HB3.out.size
  clear hd hb hk HV2 HB2 HA2 hC2 e0 e1 e2 e3 hbl
  obtain ⟨e0, e1, e2, e3, hbl⟩ := HA3.out.cells
  obtain ⟨nn, xs, hnn, hown⟩ := HV3.out.r3
  obtain ⟨av, cv, hve⟩ := ownsRow_form hown
  rw [hve] at HV3 hown
  have HO := Lib.hid hown
  have HV9 := Lib.hid HV3.out
  obtain ⟨_, _, c2, _, f2⟩ := HV3.out.cells
  have c2f := f2 2
  have hfl := HV3.out.lt
  have HBd := Lib.hid (fun o : Obj => (Below.alloc (below_drew2 (Below.refl u3.heap.size u3)) (Nat.le_refl _) o : Below u3.heap.size u3 (u3.drew.alloc o)))
  clear hown hve f2 HV3 HA3
  go_upto_region 10 with fail
  go_region_law (refine step_append_lies _ (by rfl) (.tmp 44) (.tmp 46) 50 (by rfl) B tAct i0 actZ 4 56 Tryz.underlying50 hi0 hz0 hz1 hz2 (by rfl) (by decide) (.slice av nn cv) nn xs (by rfl) (ownsRow_below HO.out (HBd.out _)) ⟨_, 0, none⟩ 1 1 [.int .i64 3, .string (S x), .string (S y), .string (S d)] (by rfl) (by rfl) (cells4_new _ _ _ _ _ _) (by simp [Value.oneCell']) (by decide) (by unfold maxLen; omega) (by omega) (by simp; omega) _ (by rfl) ?_; intro g' c' w9 hown9 hgr9 hat9 _; have hs3 := (HV9.out.below (HBd.out _)).set3 (v3' := .slice (some ⟨g', 0, none⟩) (nn + 1) c') (by simp; omega) hown9 (by omega) hgr9 (by rcases hat9 with e | e; exact .inl e.symm; exact .inr ⟨g', rfl, by rw [e]; exact Nat.le_refl _⟩); obtain ⟨HD9, HE9, z0, z1, hk9⟩ := hs3; have HK9 := Lib.hid (HK3.out.trans ((KeepE.below (HBd.out _)).trans hk9)); have HF9 := Lib.hid HD9; have HG9 := Lib.hid (HB3.out.trans ((((HBd.out _).mono hC3).trans HE9))); clear hown9 hgr9 hat9 HD9 HE9 hk9)
  all_goals go_wp2
  all_goals go_end0
  all_goals exact ⟨rfl, ⟨_, _, _, HF9.out⟩, HG9.out, HK9.out⟩
end Go.Proofs.YtkdplkhnkimhpaaGreatDoor
namespace Go.Proofs.YtkdplkhnkimhpaaGreatDoor
open Go.RowKit

theorem formatI_any (n : Nat) (w : World) (hT : Tz w) (hn : n < 4294967290) :
    Calls Tryz.prog 135 #[.int .i64 n, .int .i64 8] w fun e w' => e = .returned (.string (S (octB n))) ∧ Below w.heap.size w w' := by
  go_enter Tryz.func135, Tryz.ntmps135
  go_wp2_with fail
  refine (formatBits_any n _ hT hn).mono ?_
  rintro e w1 ⟨rfl, hb1⟩
  go_wp2_with fail
  go_ret
  exact ⟨rfl, hb1⟩
theorem format_any (n : Nat) (w : World) (hT : Tz w) (hn : n < 4294967290) :
    Calls Tryz.prog 111 #[.int .i64 n, .int .i64 8] w fun e w' => e = .returned (.string (S (octB n))) ∧ Below w.heap.size w w' := by
  go_enter Tryz.func111, Tryz.ntmps111
  go_wp2_with fail
  refine (formatI_any n _ hT hn).mono ?_
  rintro e w1 ⟨rfl, hb1⟩
  go_wp2_with fail
  go_ret
  exact ⟨rfl, hb1⟩
theorem octalG_any (n : Nat) (w : World) (hT : Tz w) (hn : n < 4294967290) :
    Calls Tryz.prog 79 #[.int .i64 n] w fun e w' => e = .returned (.string (S (octB n))) ∧ Below w.heap.size w w' := by
  go_enter Tryz.func79, Tryz.ntmps79
  go_wp2_with fail
  refine (format_any n _ hT hn).mono ?_
  rintro e w1 ⟨rfl, hb1⟩
  go_wp2_with fail
  go_ret
  exact ⟨rfl, hb1⟩
/-- the library's table of powers -/
def PT (w : World) : Prop := Lib.TabIs Tryz.prog w "internal/strconv.uint64pow10" .u64 Lib.pow10Tab
theorem PT.below {w w' : World} (h : PT w) (hb : Below w.heap.size w w') : PT w' := by
  unfold PT Lib.TabIs World.var? at *
  cases hg : Tryz.prog.globalNamed "internal/strconv.uint64pow10" with
  | none => rw [hg] at h; cases h
  | some g =>
    rw [hg] at h
    simp only [Option.bind_some] at h ⊢
    have hlt : g < w.heap.size := by
      rcases Nat.lt_or_ge g w.heap.size with h2 | h2
      · exact h2
      · rw [Array.getElem?_eq_none h2] at h; cases h
    rw [hb.block g hlt]; exact h
theorem itoa_any (n : Nat) (w : World) (hT : PT w) (hn : n < 4294967290) :
    Calls Tryz.prog 80 #[.int .i64 n] w fun e w' => e = .returned (.string (S (Lib.decDigits n))) ∧ Below w.heap.size w w' := by
  refine (Tryz.strconv_Itoa (n : Int) (by omega) (by omega) w hT).mono ?_
  rintro e w' ⟨rfl, k, os, rfl⟩
  refine ⟨?_, ?_⟩
  · have : Lib.itoa (n : Int) = Lib.decDigits n := by unfold Lib.itoa; rw [if_neg (by omega)]; rfl
    rw [this]; rfl
  · refine ⟨rfl, rfl, rfl, ?_, fun j hj => ?_⟩
    · show w.heap.size ≤ (w.heap ++ os).size
      rw [Array.size_append]; omega
    · show (w.heap ++ os)[j]? = w.heap[j]?
      rw [Array.getElem?_append_left hj]
/-- what the sums read of tables -/
structure Tabs (w : World) : Prop where
  keys : Keys w
  starts : Starts w
  tz : Tz w
  pt : PT w
theorem Tabs.below {w w' : World} (h : Tabs w) (hb : Below w.heap.size w w') : Tabs w' := ⟨h.keys.below hb, h.starts.below hb, h.tz.below hb, h.pt.below hb⟩
end Go.Proofs.YtkdplkhnkimhpaaGreatDoor
