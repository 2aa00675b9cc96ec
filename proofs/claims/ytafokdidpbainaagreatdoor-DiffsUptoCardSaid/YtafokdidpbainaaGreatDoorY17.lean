/-
  The program: what makes one tree of another; layers.Diff and plain.Diff, at any two lists.
  The law Diffs, at any two lists.
-/
import Derived.BigRegion
import Derived.Test.YtafokdidpbainaaGreatDoorY10
import Derived.Test.YtafokdidpbainaaGreatDoorY13
import Derived.Test.YtafokdidpbainaaGreatDoorY14
import Derived.Test.YtafokdidpbainaaGreatDoorY15
import Derived.Test.YtafokdidpbainaaGreatDoorY16
set_option linter.unusedVariables false
set_option linter.unusedSimpArgs false
namespace Go.Proofs.YtafokdidpbainaaGreatDoor
open Go.RowKit

set_option maxRecDepth 100000 in
set_option maxHeartbeats 4000000 in
theorem treeDiff_any {w : World} {B N : Nat} {a m : Pth → Nat} {F : Forest} (hT : TreeAt w B N a m F) {B' N' : Nat} {a' m' : Pth → Nat} {G : Forest} (hU : TreeAt w B' N' a' m' G) {al bl : List Ent} (hLa : Lists al F) (hLb : Lists bl G) (hN : N ≤ 1000000) (hN' : N' ≤ 1000000) (ta tb : Nat) (hVa : TreeV w ta a) (hVb : TreeV w tb a') (hlen : (diffL al bl).length ≤ 1000000) :
    Calls Tryz.prog 46 #[.pointer (some ⟨ta, 0, none⟩), .pointer (some ⟨tb, 0, none⟩)] w fun e w' => ∃ v, e = .returned v ∧ OwnC w' w.heap.size v (diffL al bl) ∧ Below w.heap.size w w' := by
  have hroot := isDirF_iff.2 hU.tree.root
  have hrootF := isDirF_iff.2 hT.tree.root
  have HE := Lib.hid (diff_same hLa hLb hT.tree hU.tree)
  have HDif := Lib.hid (fun (wx : World) (hb : Below w.heap.size w wx) (hv : VarC wx w.heap.size (.slice none 0 0)) => differ_any hT hU hLa hLb hN hN' 13 [] rfl hroot wx (a []) (m []) w.heap.size (.slice none 0 0) [] hb (Nat.le_refl _) ((hT.below hb).anode [] hrootF) hv (World.ownsRow_nil _ _ _ _) (by rw [← diff_same hLa hLb hT.tree hU.tree]; simpa using hlen))
  have c1 : w.cell? ⟨ta, 0, none⟩ = some (.pointer (some ⟨a [], 0, none⟩)) := hVa
  have c2 : w.cell? ⟨tb, 0, none⟩ = some (.pointer (some ⟨a' [], 0, none⟩)) := hVb
  have hl1 : ta < w.heap.size := World.block_lt_of_cell? w _ c1
  have hl2 : tb < w.heap.size := World.block_lt_of_cell? w _ c2
  clear hT hU hLa hLb hVa hVb hroot hrootF hlen
  go_enter Tryz.func46, Tryz.ntmps46
  have hb1 : Below w.heap.size w (w.alloc (.cells #[.slice none 0 0] tChgs)) := (Below.refl _ _).alloc (Nat.le_refl _) _
  have HC := Lib.hid (HDif.out (w.alloc (.cells #[.slice none 0 0] tChgs)).drew (below_drew1 hb1) (VarC.new w _))
  have d1 := (hb1.cell (p := ⟨ta, 0, none⟩) hl1).trans c1
  have d2 := (hb1.cell (p := ⟨tb, 0, none⟩) hl2).trans c2
  clear hb1 c1 c2 hl1 hl2
  go_upto_region 1 with fail
  generalize hwA : w.alloc (.cells #[.slice none 0 0] 29) = wA at HC d1 d2 ⊢
  clear hwA
  go_still_tail 8, (by kernel_rfl)
  go_wp2_with fail
  refine HC.out.mono ?_
  rintro e1 w1 ⟨rfl, v, hv, ho, hb, _⟩
  rw [List.nil_append, ← HE.out] at ho
  obtain ⟨av, cv, rfl⟩ := ownsRow_form ho
  have HO := Lib.hid (ho.set hv (.slice av (diffL al bl).length cv))
  have HB := Lib.hid (hb.setCell (p := ⟨w.heap.size, 0, none⟩) (Nat.le_refl _) (.slice av (diffL al bl).length cv))
  have hc1 := hv.cell
  have hf1 := hv.frozen
  have hce := (hv.set (.slice av (diffL al bl).length cv)).cell
  have HCe := Lib.hid hce
  clear hv ho hb hce HC HDif HE
  go_wp2
  have hce := HCe.out
  refine bodyPost_ret (show (results Tryz.f46 _).run Tryz.prog _ = .ok (.slice av (diffL al bl).length cv) _ from (by simp [results, Tryz.f46, go_sem, hce])) rfl ?_
  exact ⟨_, rfl, HO.out, HB.out⟩
/-- what Diff answers, from outside -/
def difAll (a b : List Ent) (rx ry : Int) : List Ent × Int × Int := if rx ≠ -1 then ([], 2, rx) else if ry ≠ -1 then ([], 2, ry) else (diffL a b, 0, -1)
/-- what layers.Diff answers -/
def DifL (R : List Ent × Int × Int) (W : World) (e : Ending) (w' : World) : Prop :=
  ∃ v er, e = .returned (.tuple #[v, er]) ∧ OwnC w' W.heap.size v R.1 ∧ ErrOut W w' er R.2.1 R.2.2 ∧ Below W.heap.size W w'
set_option maxHeartbeats 4000000 in
theorem difL_any (a b : List Ent) (A B : Option Addr) (capA capB : Nat) (w : World) (hw : Std w) (ha : Rd w A (ents a)) (hb : Rd w B (ents b)) (hla : a.length ≤ 2000000000) (hlb : b.length ≤ 2000000000)
    (hsa : ∀ e ∈ a, e.path.length ≤ 2000000000 ∧ e.data.length ≤ 2000000000) (hsb : ∀ e ∈ b, e.path.length ≤ 2000000000 ∧ e.data.length ≤ 2000000000) (rx ry : Int) (hx : First (wrongP a) a.length rx) (hy : First (wrongP b) b.length ry) :
    Calls Tryz.prog 25 #[.slice A a.length capA, .slice B b.length capB] w (DifL (difAll a b rx ry) w) := by
  have HW := Lib.hid hw
  have HOf := Lib.hid (of_any a A capA w hw ha hla hsa)
  have HBr := Lib.hid hb
  have HX := Lib.hid hx
  have HY := Lib.hid hy
  have HSb := Lib.hid hsb
  clear hw ha hb hsa hsb hx hy
  go_enter Tryz.func25, Tryz.ntmps25
  go_wp2_with fail
  refine HOf.out.mono ?_
  rintro e w1 ⟨r', hf, hb1, ho⟩
  obtain rfl := First.uniq HX.out hf (fun _ _ _ _ => rfl)
  have HB1 := Lib.hid hb1
  clear HOf hf hb1
  rcases ho with ⟨hr, t, a1, m1, rfl, hT, hV⟩ | ⟨k, hr, rfl⟩
  · have HT := Lib.hid hT
    have HV := Lib.hid hV
    clear hT hV
    obtain ⟨ha40, hLi⟩ := none_wrong (hr ▸ HX.out)
    have HLi := Lib.hid hLi
    have HRx := Lib.hid hr
    clear hr hLi
    go_wp2_with fail
    refine (of_any b B capB w1 (HW.out.below HB1.out) (HBr.out.below HB1.out) hlb HSb.out).mono ?_
    rintro e w2 ⟨r', hf, hb2, ho⟩
    obtain rfl := First.uniq HY.out hf (fun _ _ _ _ => rfl)
    have HB2 := Lib.hid (HB1.out.trans (hb2.mono HB1.out.size))
    have HT2 := Lib.hid (HT.out.below hb2)
    have HV2 := Lib.hid (HV.out.below hb2)
    clear hf hb2 HB1 HT HV
    rcases ho with ⟨hr, t2, a2, m2, rfl, hU, hV'⟩ | ⟨k, hr, rfl⟩
    · have HU := Lib.hid hU
      have HVu := Lib.hid hV'
      clear hU hV'
      obtain ⟨hb40, hLb⟩ := none_wrong (hr ▸ HY.out)
      have HLb := Lib.hid hLb
      have HE := Lib.hid (show difAll a b rx ry = (diffL a b, 0, -1) by unfold difAll; rw [if_neg (by rw [HRx.out]; decide), if_neg (by rw [hr]; decide)])
      have hdl := diff_len a b
      clear hr hLb
      go_wp2_with fail
      refine (treeDiff_any HT2.out HU.out HLi.out HLb.out (by omega) (by omega) t t2 HV2.out HVu.out (by omega)).mono ?_
      rintro e w3 ⟨v, rfl, hown, hb3⟩
      obtain ⟨av, cv, rfl⟩ := ownsRow_form hown
      have HB3 := Lib.hid (HB2.out.trans (hb3.mono HB2.out.size))
      have HO := Lib.hid (ownsRow_base hown HB2.out.size)
      clear hown hb3 hdl
      go_wp2
      go_ret2
      exact ⟨_, _, rfl, by rw [HE.out]; exact HO.out, by rw [HE.out]; exact .inl ⟨rfl, rfl, rfl⟩, HB3.out⟩
    · have HE := Lib.hid (show difAll a b rx ry = ([], 2, ry) by unfold difAll; rw [if_neg (by rw [HRx.out]; decide), if_pos (by omega)])
      subst hr
      go_wp2_with fail
      refine (at_out 2 k w _ (by decide) (.inr (by omega))).mono ?_
      rintro e w3 ⟨er, rfl, ho, hb3⟩
      have HO := Lib.hid ho
      have HB3 := Lib.hid (HB2.out.trans (hb3.mono HB2.out.size))
      clear ho hb3
      go_wp2
      go_ret2
      exact ⟨_, _, rfl, by rw [HE.out]; exact World.ownsRow_nil _ _ _ _, by rw [HE.out]; exact HO.out, HB3.out⟩
  · have HE := Lib.hid (show difAll a b rx ry = ([], 2, rx) by unfold difAll; rw [if_pos (by omega)])
    subst hr
    go_wp2_with fail
    refine (at_out 2 k w _ (by decide) (.inr (by omega))).mono ?_
    rintro e w3 ⟨er, rfl, ho, hb3⟩
    have HO := Lib.hid ho
    have HB3 := Lib.hid (HB1.out.trans (hb3.mono HB1.out.size))
    clear ho hb3
    go_wp2
    go_ret2
    exact ⟨_, _, rfl, by rw [HE.out]; exact World.ownsRow_nil _ _ _ _, by rw [HE.out]; exact HO.out, HB3.out⟩
set_option maxHeartbeats 4000000 in
theorem difPl_any (a b : List Ent) (A B : Option Addr) (capA capB : Nat) (w : World) (hw : Std w) (hg : ErrT w) (ha : Rd w A (ents a)) (hb : Rd w B (ents b)) (hla : a.length ≤ 2000000000) (hlb : b.length ≤ 2000000000)
    (hsa : ∀ e ∈ a, e.path.length ≤ 2000000000 ∧ e.data.length ≤ 2000000000) (hsb : ∀ e ∈ b, e.path.length ≤ 2000000000 ∧ e.data.length ≤ 2000000000) (rx ry : Int) (hx : First (wrongP a) a.length rx) (hy : First (wrongP b) b.length ry) :
    Calls Tryz.prog 9 #[.slice A a.length capA, .slice B b.length capB] w fun e w' => ∃ v, e = .returned (.tuple #[v, .int .i64 (difAll a b rx ry).2.1, .int .i64 (difAll a b rx ry).2.2]) ∧ OwnC w' w.heap.size v (difAll a b rx ry).1 ∧ Below w.heap.size w w' := by
  have HL := Lib.hid (difL_any a b A B capA capB w hw ha hb hla hlb hsa hsb rx ry hx hy)
  have HG := Lib.hid hg
  clear hw hg ha hb hsa hsb hx hy
  obtain ⟨R, hR⟩ : ∃ R, difAll a b rx ry = R := ⟨_, rfl⟩
  rw [hR] at HL ⊢
  clear hR
  obtain ⟨R0, R1, R2⟩ := R
  go_enter Tryz.func9, Tryz.ntmps9
  go_wp2_with fail
  refine HL.out.mono ?_
  rintro e w1 ⟨v, er, rfl, hown, ho, hb1⟩
  obtain ⟨av, cv, rfl⟩ := ownsRow_form hown
  have HO := Lib.hid ho
  have HOw := Lib.hid hown
  have HB := Lib.hid hb1
  clear ho hown hb1 HL
  go_wp2_with fail
  refine (tell_out er R1 R2 w w1 (HG.out.below HB.out) HO.out).mono ?_
  rintro e w2 ⟨rfl, hb2⟩
  have HB2 := Lib.hid (HB.out.trans (hb2.mono HB.out.size))
  have HOw2 := Lib.hid (ownsRow_below HOw.out hb2)
  clear hb2
  go_wp2
  go_ret3
  exact ⟨_, rfl, HOw2.out, HB2.out⟩
end Go.Proofs.YtafokdidpbainaaGreatDoor
namespace Go.Proofs.YtafokdidpbainaaGreatDoor
open Go.RowKit

set_option maxRecDepth 100000 in
set_option maxHeartbeats 4000000 in
theorem sameC_any (l : List Ent) (A B : Option Addr) (capA capB : Nat) (w : World) (ha : Rd w A (ents l)) (hb : Rd w B (ents l)) (hl : l.length ≤ 2000000000) :
    Calls Tryz.prog 11 #[.slice A l.length capA, .slice B l.length capB] w fun e w' => e = .returned (.bool true) ∧ Below w.heap.size w w' := by
  have HA := Lib.hid ha
  have HBb := Lib.hid hb
  clear ha hb
  go_enter Tryz.func11, Tryz.ntmps11
  go_wp2
  go_loopw [5] (fun i wr => ∃ k : Nat, k ≤ l.length ∧ i = .int .i64 k ∧ Hid (Below w.heap.size w wr)) (fun i _ => l.length - (intOf i).toNat)
  case atStart => exact ⟨0, Nat.zero_le _, rfl, Lib.hid (Below.refl _ _)⟩
  case round =>
    obtain ⟨k, hk, rfl, HB⟩ := hrel
    by_cases hlt : k < l.length
    · obtain ⟨b, o, hBe, hbb, g0, g1, g2, g3⟩ := ents_at HA.out HB.out k hlt
      obtain ⟨b2, o2, hBe2, hbb2, e0, e1, e2, e3⟩ := ents_at HBb.out HB.out k hlt
      subst hBe hBe2
      obtain ⟨c, hcc⟩ : ∃ c, l[k] = c := ⟨_, rfl⟩
      rw [hcc] at g0 g1 g2 g3 e0 e1 e2 e3
      have hkl : (k : Int) < (l.length : Int) := by omega
      clear hcc
      go_upto_region 6 with fail
      go_region
      go_wp2
      go_roundw
      case rel => exact ⟨k + 1, by omega, by go_num, Lib.hid (below_drew HB.out)⟩
      case measure => simp [intOf]; omega
    · obtain rfl : k = l.length := by omega
      go_wp2
      go_ret
      exact ⟨rfl, HB.out⟩
theorem ex_none : First (wrongP []) ([] : List Ent).length (-1) := .inr ⟨rfl, fun j hj => by simp at hj⟩
theorem ex_dif : difAll [] exTree (-1) (-1) = (diffL [] exTree, 0, -1) := by unfold difAll; rw [if_neg (by decide), if_neg (by decide)]
set_option maxRecDepth 100000 in
set_option maxHeartbeats 8000000 in
theorem diffs_any (a b : List Ent) (A B : Option Addr) (capA capB : Nat) (w : World) (hw : Std w) (hg : ErrT w) (ha : Rd w A (ents a)) (hb : Rd w B (ents b)) (hla : a.length ≤ 2000000000) (hlb : b.length ≤ 2000000000)
    (hc1 : a.length ≤ capA) (hc2 : capA ≤ maxLen) (hd1 : b.length ≤ capB) (hd2 : capB ≤ maxLen)
    (hsa : ∀ e ∈ a, e.path.length ≤ 2000000000 ∧ e.data.length ≤ 2000000000) (hsb : ∀ e ∈ b, e.path.length ≤ 2000000000 ∧ e.data.length ≤ 2000000000) :
    Calls Tryz.prog 4 #[.slice A a.length capA, .slice B b.length capB] w fun e w' => e = .returned (.bool true) ∧ Below w.heap.size w w' := by
  obtain ⟨rx, hx⟩ := First.exists' (wrongP a) a.length
  obtain ⟨ry, hy⟩ := First.exists' (wrongP b) b.length
  have HW := Lib.hid hw
  have HG := Lib.hid hg
  have HRa := Lib.hid ha
  have HRb := Lib.hid hb
  have HSa := Lib.hid hsa
  have HSb := Lib.hid hsb
  have HX := Lib.hid hx
  have HY := Lib.hid hy
  clear hw hg ha hb hsa hsb hx hy
  have hel : (diffL [] exTree).length ≤ 12 := diff_len [] exTree
  go_enter Tryz.func4, Tryz.ntmps4
  go_wp2_with fail
  refine (tree_any w).mono ?_
  rintro e w1 ⟨A0, rfl, _, hr0, hb1⟩
  have HR1 := Lib.hid hr0
  have HB1 := Lib.hid hb1
  clear hr0 hb1
  have HP := Lib.hid (difPl_any [] exTree none A0 0 3 w1 (HW.out.below HB1.out) (HG.out.below HB1.out) (.inl rfl) HR1.out (by decide) (by decide) (by decide) (by decide) (-1) (-1) ex_none ex_tree)
  rw [ex_dif] at HP
  go_wp2_with fail
  refine HP.out.mono ?_
  rintro e w3 ⟨v, rfl, hown, hb3⟩
  obtain ⟨av, cv, rfl⟩ := ownsRow_form hown
  have HB3 := Lib.hid (HB1.out.trans (hb3.mono HB1.out.size))
  have HO3 := Lib.hid hown
  clear hown hb3 HP HR1 HB1
  go_wp2_with fail
  refine (tree_any w3).mono ?_
  rintro e w4 ⟨A4, rfl, _, hr4, hb4⟩
  have HR4 := Lib.hid hr4
  have HB4 := Lib.hid (HB3.out.trans (hb4.mono HB3.out.size))
  have HO4 := Lib.hid (ownsRow_below HO3.out hb4)
  clear hr4 hb4 HB3 HO3
  go_wp2_with fail
  refine (diffR_any [] exTree none A4 0 3 w4 (.inl rfl) HR4.out (by decide) (by decide) (by decide) (by decide)).mono ?_
  rintro e w5 ⟨v, rfl, hown, hb5⟩
  obtain ⟨av5, cv5, rfl⟩ := ownsRow_form hown
  have HB5 := Lib.hid (HB4.out.trans (hb5.mono HB4.out.size))
  have HR5 := Lib.hid (rd_own (ownsRow_below HO4.out hb5))
  have HR5' := Lib.hid (rd_own hown)
  clear hown hb5 HB4 HO4 HR4
  go_wp2_with fail
  refine (sameC_any (diffL [] exTree) av av5 cv cv5 w5 HR5.out HR5'.out (by omega)).mono ?_
  rintro e w6 ⟨rfl, hb6⟩
  have HB6 := Lib.hid (HB5.out.trans (hb6.mono HB5.out.size))
  clear hb6 HB5 HR5 HR5' hel
  have HP := Lib.hid (difPl_any a b A B capA capB w6 (HW.out.below HB6.out) (HG.out.below HB6.out) (HRa.out.below HB6.out) (HRb.out.below HB6.out) hla hlb HSa.out HSb.out rx ry HX.out HY.out)
  go_wp2_with fail
  refine HP.out.mono ?_
  rintro e w7 ⟨v, rfl, hown, hb7⟩
  obtain ⟨R, hR⟩ : ∃ R, difAll a b rx ry = R := ⟨_, rfl⟩
  rw [hR] at hown ⊢
  have HRr := Lib.hid hR
  clear hR HP
  obtain ⟨R0, R1, R2⟩ := R
  obtain ⟨at7, ct7, rfl⟩ := ownsRow_form hown
  have HO7 := Lib.hid hown
  have HB7 := Lib.hid (HB6.out.trans (hb7.mono HB6.out.size))
  clear hown hb7 HB6
  go_wp2_with fail
  refine (wrongR_any a A capA w7 (HRa.out.below HB7.out) hla hc1 hc2 HSa.out).mono ?_
  rintro e w8 ⟨rx', rfl, hf, hb8⟩
  obtain rfl := wrongs_same HX.out hf
  have HB8 := Lib.hid (HB7.out.trans (hb8.mono HB7.out.size))
  have HO8 := Lib.hid (ownsRow_below HO7.out hb8)
  clear hf hb8 HO7 HB7
  go_wp2_with fail
  refine (wrongR_any b B capB w8 (HRb.out.below HB8.out) hlb hd1 hd2 HSb.out).mono ?_
  rintro e w9 ⟨ry', rfl, hf, hb9⟩
  obtain rfl := wrongs_same HY.out hf
  have HB9 := Lib.hid (HB8.out.trans (hb9.mono HB8.out.size))
  have HO9 := Lib.hid (ownsRow_below HO8.out hb9)
  clear hf hb9 HO8 HB8
  rcases HX.out with ⟨k, hk, rfl, _⟩ | ⟨rfl, _⟩
  · have hR := HRr.out
    unfold difAll at hR
    rw [if_pos (by omega)] at hR
    obtain ⟨rfl, rfl, rfl⟩ : [] = R0 ∧ 2 = R1 ∧ (k : Int) = R2 := by simpa using hR
    clear HX HRr hR
    go_wp2
    go_ret
    exact ⟨rfl, HB9.out⟩
  · rcases HY.out with ⟨k, hk, rfl, _⟩ | ⟨rfl, _⟩
    · have hR := HRr.out
      unfold difAll at hR
      rw [if_neg (by decide), if_pos (by omega)] at hR
      obtain ⟨rfl, rfl, rfl⟩ : [] = R0 ∧ 2 = R1 ∧ (k : Int) = R2 := by simpa using hR
      clear HX HY HRr hR
      go_wp2
      go_ret
      exact ⟨rfl, HB9.out⟩
    · have hR := HRr.out
      unfold difAll at hR
      rw [if_neg (by decide), if_neg (by decide)] at hR
      obtain ⟨rfl, rfl, rfl⟩ : diffL a b = R0 ∧ 0 = R1 ∧ -1 = R2 := by simpa using hR
      obtain ⟨ha40, hLi⟩ := none_wrong HX.out
      obtain ⟨hb40, hLb⟩ := none_wrong HY.out
      have hdl := diff_len a b
      have HE := Lib.hid hLi.each
      have HEb := Lib.hid hLb.each
      clear hLi hLb HX HY HRr hR
      go_wp2_with fail
      refine (diffR_any a b A B capA capB w9 (HRa.out.below HB9.out) (HRb.out.below HB9.out) (by omega) (by omega) (fun e he => ⟨by have := (pathB_ok (HE.out e he).1).1; omega, (HE.out e he).2.1⟩) (fun e he => ⟨by have := (pathB_ok (HEb.out e he).1).1; omega, (HEb.out e he).2.1⟩)).mono ?_
      rintro e w10 ⟨v, rfl, hown, hb10⟩
      obtain ⟨av10, cv10, rfl⟩ := ownsRow_form hown
      have HB10 := Lib.hid (HB9.out.trans (hb10.mono HB9.out.size))
      have HR10 := Lib.hid (rd_own (ownsRow_below HO9.out hb10))
      have HR10' := Lib.hid (rd_own hown)
      clear hown hb10 HB9 HO9
      go_wp2_with fail
      refine (sameC_any (diffL a b) at7 av10 ct7 cv10 w10 HR10.out HR10'.out (by omega)).mono ?_
      rintro e w11 ⟨rfl, hb11⟩
      have HB11 := Lib.hid (HB10.out.trans (hb11.mono HB10.out.size))
      clear hb11 HB10
      go_wp2
      go_ret
      exact ⟨rfl, HB11.out⟩
end Go.Proofs.YtafokdidpbainaaGreatDoor
