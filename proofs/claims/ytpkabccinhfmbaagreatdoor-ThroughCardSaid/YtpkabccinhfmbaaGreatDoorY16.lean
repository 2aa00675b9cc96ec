/-
  The program: what makes one tree of another; layers.Diff and plain.Diff, at any two lists.
  Trees that Tree makes of raw things: right, and what makes one of another may stand.
-/
import Derived.Test.YtpkabccinhfmbaaGreatDoorY03
import Derived.Test.YtpkabccinhfmbaaGreatDoorY10
import Derived.Test.YtpkabccinhfmbaaGreatDoorY11
import Derived.Test.YtpkabccinhfmbaaGreatDoorY14
import Derived.Test.YtpkabccinhfmbaaGreatDoorY15
set_option linter.unusedVariables false
set_option linter.unusedSimpArgs false
namespace Go.Proofs.YtpkabccinhfmbaaGreatDoor
open Go.RowKit

set_option maxRecDepth 100000 in
set_option maxHeartbeats 4000000 in
theorem treeDiff_any {w : World} {B N : Nat} {a m : Pth → Nat} {F : Forest} (hT : TreeAt w B N a m F) {B' N' : Nat} {a' m' : Pth → Nat} {G : Forest} (hU : TreeAt w B' N' a' m' G) {al bl : List Ent} (hLa : Lists al F) (hLb : Lists bl G) (hN : N ≤ 1000000) (hN' : N' ≤ 1000000) (ta tb : Nat) (hVa : TreeV w ta a) (hVb : TreeV w tb a') (hlen : (diffL al bl).length ≤ 1000000) :
    Calls Tryz.prog 23 #[.pointer (some ⟨ta, 0, none⟩), .pointer (some ⟨tb, 0, none⟩)] w fun e w' => ∃ v, e = .returned v ∧ OwnC w' w.heap.size v (diffL al bl) ∧ Below w.heap.size w w' := by
  have hroot := isDirF_iff.2 hU.tree.root
  have hrootF := isDirF_iff.2 hT.tree.root
  have HE := Lib.hid (diff_same hLa hLb hT.tree hU.tree)
  have HDif := Lib.hid (fun (wx : World) (hb : Below w.heap.size w wx) (hv : VarC wx w.heap.size (.slice none 0 0)) => differ_any hT hU hLa hLb hN hN' 13 [] rfl hroot wx (a []) (m []) w.heap.size (.slice none 0 0) [] hb (Nat.le_refl _) ((hT.below hb).anode [] hrootF) hv (World.ownsRow_nil _ _ _ _) (by rw [← diff_same hLa hLb hT.tree hU.tree]; simpa using hlen))
  have c1 : w.cell? ⟨ta, 0, none⟩ = some (.pointer (some ⟨a [], 0, none⟩)) := hVa
  have c2 : w.cell? ⟨tb, 0, none⟩ = some (.pointer (some ⟨a' [], 0, none⟩)) := hVb
  have hl1 : ta < w.heap.size := World.block_lt_of_cell? w _ c1
  have hl2 : tb < w.heap.size := World.block_lt_of_cell? w _ c2
  clear hT hU hLa hLb hVa hVb hroot hrootF hlen
  go_enter Tryz.func23, Tryz.ntmps23
  have hb1 : Below w.heap.size w (w.alloc (.cells #[.slice none 0 0] tChgs)) := (Below.refl _ _).alloc (Nat.le_refl _) _
  have HC := Lib.hid (HDif.out (w.alloc (.cells #[.slice none 0 0] tChgs)).drew (below_drew1 hb1) (VarC.new w _))
  have d1 := (hb1.cell (p := ⟨ta, 0, none⟩) hl1).trans c1
  have d2 := (hb1.cell (p := ⟨tb, 0, none⟩) hl2).trans c2
  clear hb1 c1 c2 hl1 hl2
  go_upto_region 1 with fail
  generalize hwA : w.alloc (.cells #[.slice none 0 0] 25) = wA at HC d1 d2 ⊢
  clear hwA
  go_still_tail 8, (by kernel_rfl)
  go_wp2_with fail
  refine HC.out.mono ?_
  rintro e1 w1 ⟨rfl, v, hv, ho, hb, _⟩
  rw [List.nil_append, ← HE.out] at ho
  obtain ⟨av, cv, rfl⟩ := ownsRow_form ho
  have HO := Lib.hid (ho.set hv (.slice av (diffL al bl).length cv))
  have HB := Lib.hid (hb.setCell (p := ⟨w.heap.size, 0, none⟩) (Nat.le_refl _) (.slice av (diffL al bl).length cv))
  have hc1 := hv.cell
  have hf1 := hv.frozen
  have hce := (hv.set (.slice av (diffL al bl).length cv)).cell
  have HCe := Lib.hid hce
  clear hv ho hb hce HC HDif HE
  go_wp2
  have hce := HCe.out
  refine bodyPost_ret (show (results Tryz.f23 _).run Tryz.prog _ = .ok (.slice av (diffL al bl).length cv) _ from (by simp [results, Tryz.f23, go_sem, hce])) rfl ?_
  exact ⟨_, rfl, HO.out, HB.out⟩
/-- what Diff answers, from outside -/
def difAll (a b : List Ent) (rx ry : Int) : List Ent × Int × Int := if rx ≠ -1 then ([], 2, rx) else if ry ≠ -1 then ([], 2, ry) else (diffL a b, 0, -1)
/-- what layers.Diff answers -/
def DifL (R : List Ent × Int × Int) (W : World) (e : Ending) (w' : World) : Prop :=
  ∃ v er, e = .returned (.tuple #[v, er]) ∧ OwnC w' W.heap.size v R.1 ∧ ErrOut W w' er R.2.1 R.2.2 ∧ Below W.heap.size W w'
set_option maxHeartbeats 4000000 in
theorem difL_any (a b : List Ent) (A B : Option Addr) (capA capB : Nat) (w : World) (hw : Std w) (ha : Rd w A (ents a)) (hb : Rd w B (ents b)) (hla : a.length ≤ 2000000000) (hlb : b.length ≤ 2000000000)
    (hsa : ∀ e ∈ a, e.path.length ≤ 2000000000 ∧ e.data.length ≤ 2000000000) (hsb : ∀ e ∈ b, e.path.length ≤ 2000000000 ∧ e.data.length ≤ 2000000000) (rx ry : Int) (hx : First (wrongP a) a.length rx) (hy : First (wrongP b) b.length ry) :
    Calls Tryz.prog 14 #[.slice A a.length capA, .slice B b.length capB] w (DifL (difAll a b rx ry) w) := by
  have HW := Lib.hid hw
  have HOf := Lib.hid (of_any a A capA w hw ha hla hsa)
  have HBr := Lib.hid hb
  have HX := Lib.hid hx
  have HY := Lib.hid hy
  have HSb := Lib.hid hsb
  clear hw ha hb hsa hsb hx hy
  go_enter Tryz.func14, Tryz.ntmps14
  go_wp2_with fail
  refine HOf.out.mono ?_
  rintro e w1 ⟨r', hf, hb1, ho⟩
  obtain rfl := First.uniq HX.out hf (fun _ _ _ _ => rfl)
  have HB1 := Lib.hid hb1
  clear HOf hf hb1
  rcases ho with ⟨hr, t, a1, m1, rfl, hT, hV⟩ | ⟨k, hr, rfl⟩
  · have HT := Lib.hid hT
    have HV := Lib.hid hV
    clear hT hV
    obtain ⟨ha40, hLi⟩ := none_wrong (hr ▸ HX.out)
    have HLi := Lib.hid hLi
    have HRx := Lib.hid hr
    clear hr hLi
    go_wp2_with fail
    refine (of_any b B capB w1 (HW.out.below HB1.out) (HBr.out.below HB1.out) hlb HSb.out).mono ?_
    rintro e w2 ⟨r', hf, hb2, ho⟩
    obtain rfl := First.uniq HY.out hf (fun _ _ _ _ => rfl)
    have HB2 := Lib.hid (HB1.out.trans (hb2.mono HB1.out.size))
    have HT2 := Lib.hid (HT.out.below hb2)
    have HV2 := Lib.hid (HV.out.below hb2)
    clear hf hb2 HB1 HT HV
    rcases ho with ⟨hr, t2, a2, m2, rfl, hU, hV'⟩ | ⟨k, hr, rfl⟩
    · have HU := Lib.hid hU
      have HVu := Lib.hid hV'
      clear hU hV'
      obtain ⟨hb40, hLb⟩ := none_wrong (hr ▸ HY.out)
      have HLb := Lib.hid hLb
      have HE := Lib.hid (show difAll a b rx ry = (diffL a b, 0, -1) by unfold difAll; rw [if_neg (by rw [HRx.out]; decide), if_neg (by rw [hr]; decide)])
      have hdl := diff_len a b
      clear hr hLb
      go_wp2_with fail
      refine (treeDiff_any HT2.out HU.out HLi.out HLb.out (by omega) (by omega) t t2 HV2.out HVu.out (by omega)).mono ?_
      rintro e w3 ⟨v, rfl, hown, hb3⟩
      obtain ⟨av, cv, rfl⟩ := ownsRow_form hown
      have HB3 := Lib.hid (HB2.out.trans (hb3.mono HB2.out.size))
      have HO := Lib.hid (ownsRow_base hown HB2.out.size)
      clear hown hb3 hdl
      go_wp2
      go_ret2
      exact ⟨_, _, rfl, by rw [HE.out]; exact HO.out, by rw [HE.out]; exact .inl ⟨rfl, rfl, rfl⟩, HB3.out⟩
    · have HE := Lib.hid (show difAll a b rx ry = ([], 2, ry) by unfold difAll; rw [if_neg (by rw [HRx.out]; decide), if_pos (by omega)])
      subst hr
      go_wp2_with fail
      refine (at_out 2 k w _ (by decide) (.inr (by omega))).mono ?_
      rintro e w3 ⟨er, rfl, ho, hb3⟩
      have HO := Lib.hid ho
      have HB3 := Lib.hid (HB2.out.trans (hb3.mono HB2.out.size))
      clear ho hb3
      go_wp2
      go_ret2
      exact ⟨_, _, rfl, by rw [HE.out]; exact World.ownsRow_nil _ _ _ _, by rw [HE.out]; exact HO.out, HB3.out⟩
  · have HE := Lib.hid (show difAll a b rx ry = ([], 2, rx) by unfold difAll; rw [if_pos (by omega)])
    subst hr
    go_wp2_with fail
    refine (at_out 2 k w _ (by decide) (.inr (by omega))).mono ?_
    rintro e w3 ⟨er, rfl, ho, hb3⟩
    have HO := Lib.hid ho
    have HB3 := Lib.hid (HB1.out.trans (hb3.mono HB1.out.size))
    clear ho hb3
    go_wp2
    go_ret2
    exact ⟨_, _, rfl, by rw [HE.out]; exact World.ownsRow_nil _ _ _ _, by rw [HE.out]; exact HO.out, HB3.out⟩
set_option maxHeartbeats 4000000 in
theorem difPl_any (a b : List Ent) (A B : Option Addr) (capA capB : Nat) (w : World) (hw : Std w) (hg : ErrT w) (ha : Rd w A (ents a)) (hb : Rd w B (ents b)) (hla : a.length ≤ 2000000000) (hlb : b.length ≤ 2000000000)
    (hsa : ∀ e ∈ a, e.path.length ≤ 2000000000 ∧ e.data.length ≤ 2000000000) (hsb : ∀ e ∈ b, e.path.length ≤ 2000000000 ∧ e.data.length ≤ 2000000000) (rx ry : Int) (hx : First (wrongP a) a.length rx) (hy : First (wrongP b) b.length ry) :
    Calls Tryz.prog 5 #[.slice A a.length capA, .slice B b.length capB] w fun e w' => ∃ v, e = .returned (.tuple #[v, .int .i64 (difAll a b rx ry).2.1, .int .i64 (difAll a b rx ry).2.2]) ∧ OwnC w' w.heap.size v (difAll a b rx ry).1 ∧ Below w.heap.size w w' := by
  have HL := Lib.hid (difL_any a b A B capA capB w hw ha hb hla hlb hsa hsb rx ry hx hy)
  have HG := Lib.hid hg
  clear hw hg ha hb hsa hsb hx hy
  obtain ⟨R, hR⟩ : ∃ R, difAll a b rx ry = R := ⟨_, rfl⟩
  rw [hR] at HL ⊢
  clear hR
  obtain ⟨R0, R1, R2⟩ := R
  go_enter Tryz.func5, Tryz.ntmps5
  go_wp2_with fail
  refine HL.out.mono ?_
  rintro e w1 ⟨v, er, rfl, hown, ho, hb1⟩
  obtain ⟨av, cv, rfl⟩ := ownsRow_form hown
  have HO := Lib.hid ho
  have HOw := Lib.hid hown
  have HB := Lib.hid hb1
  clear ho hown hb1 HL
  go_wp2_with fail
  refine (tell_out er R1 R2 w w1 (HG.out.below HB.out) HO.out).mono ?_
  rintro e w2 ⟨rfl, hb2⟩
  have HB2 := Lib.hid (HB.out.trans (hb2.mono HB.out.size))
  have HOw2 := Lib.hid (ownsRow_below HOw.out hb2)
  clear hb2
  go_wp2
  go_ret3
  exact ⟨_, rfl, HOw2.out, HB2.out⟩
end Go.Proofs.YtpkabccinhfmbaaGreatDoor
namespace Go.Proofs.YtpkabccinhfmbaaGreatDoor
open Go.RowKit

theorem tree_take {l : List Ent} {k : Nat} (hk : k ≤ l.length) (h : ∀ j, j < k → wrongP l j = false) : IsTree (treeOf (l.take k)) := by
  induction k with
  | zero => exact emptyF_tree
  | succ k ih =>
    have hlt : k < l.length := hk
    have hT := ih (by omega) (fun j hj => h j (by omega))
    have hw := h k (by omega)
    rw [wrongP_eq (List.getElem?_eq_getElem hlt)] at hw
    simp only [Bool.or_eq_false_iff, Bool.not_eq_false'] at hw
    obtain ⟨⟨⟨⟨⟨_, h2⟩, h3⟩, h4⟩, h5⟩, h6⟩ := hw
    have hne : l[k].path ≠ [] := fun e => by rw [e] at h2; cases h2
    rw [treeOf_take l k hlt]
    have hp := (parts_last h3 hne).1
    rw [hp]
    exact putF_tree hT _ _ _ h6
theorem RawOk.first {out : List Ent} (h : RawOk 17 out) : First (wrongP out) out.length (-1) ∧ IsTree (treeOf out) := by
  have hp : ∀ j, j < out.length → wrongP out j = false := by
    intro j
    induction j using Nat.strongRecOn with
    | ind j ih => intro hj; rw [wrong_same hj (fun q hq => ih q hq (by omega))]; exact h.right j hj
  refine ⟨.inr ⟨rfl, hp⟩, ?_⟩
  have := tree_take (k := out.length) (Nat.le_refl _) hp
  rwa [List.take_length] at this
theorem good_len {c : Ent} (h : goodB c = true) : c.data.length ≤ 4096 := by
  unfold goodB at h
  split at h
  · simp only [Bool.and_eq_true, List.isEmpty_iff] at h; rw [h.2]; simp
  · split at h
    · simp only [Bool.and_eq_true, decide_eq_true_eq] at h; exact h.2
    · split at h
      · simp only [targetB, Bool.and_eq_true, decide_eq_true_eq] at h; omega
      · cases h
theorem lists_small {l : List Ent} {F : Forest} (h : Lists l F) : ∀ e ∈ l, e.path.length ≤ 2000000000 ∧ e.data.length ≤ 2000000000 := by
  intro e he
  obtain ⟨h1, _, h3⟩ := h.each e he
  have := (pathB_ok h1).1; have := good_len h3
  omega
theorem diff_small {a b : List Ent} {F G : Forest} (ha : Lists a F) (hb : Lists b G) : ∀ e ∈ diffL a b, e.path.length ≤ 2000000000 ∧ e.data.length ≤ 2000000000 := by
  intro c hc
  obtain ⟨h1, hk⟩ := mem_diff ha hb hc
  have := (pathB_ok h1).1
  refine ⟨by omega, ?_⟩
  rcases hk with ⟨hne, x, hx, e⟩ | ⟨_, e⟩ | ⟨_, _, e⟩
  · have hg := good_in hb hne (c := c) (by rw [hx.1]; congr 1; rw [e]; rfl)
    have := good_len hg; omega
  · rw [e]; simp
  · rw [e]; simp
/-- a row of entries or changes reads -/
theorem rd_ownU {w : World} {base : Nat} {e : TypeId} {size : Nat} {A : Option Addr} {n cap : Nat} {xs : List Value} (h : w.ownsRow base e size (.slice A n cap) n xs) : Rd w A xs := by
  obtain ⟨A', cap', e, _, _, r⟩ := Rd.of_own h
  cases e; exact r
theorem difAll_ok (a b : List Ent) : difAll a b (-1) (-1) = (diffL a b, 0, -1) := by unfold difAll; rw [if_neg (by decide), if_neg (by decide)]
end Go.Proofs.YtpkabccinhfmbaaGreatDoor
