/-
  The program: layers.Patch and plain.Patch, at any two lists; the law.
  The law Patches, at any two lists.
-/
import Derived.Test.YtjampkdbieoboaaGreatDoorY03
import Derived.Test.YtjampkdbieoboaaGreatDoorY12
import Derived.Test.YtjampkdbieoboaaGreatDoorY15
import Derived.Test.YtjampkdbieoboaaGreatDoorY18
import Derived.Test.YtjampkdbieoboaaGreatDoorY19
import Derived.Test.YtjampkdbieoboaaGreatDoorY20
set_option linter.unusedVariables false
set_option linter.unusedSimpArgs false
namespace Go.Proofs.YtjampkdbieoboaaGreatDoor
open Go.RowKit

theorem First.exists' (f : Nat → Bool) (n : Nat) : ∃ r, First f n r := by
  suffices h : ∀ m, m ≤ n → (∃ i : Nat, i < m ∧ f i = true ∧ ∀ j, j < i → f j = false) ∨ ∀ j, j < m → f j = false by
    rcases h n (Nat.le_refl _) with ⟨i, hi, h1, h2⟩ | h
    · exact ⟨i, .inl ⟨i, hi, rfl, h1, h2⟩⟩
    · exact ⟨-1, .inr ⟨rfl, h⟩⟩
  intro m
  induction m with
  | zero => intro _; exact .inr fun j hj => by omega
  | succ m ih =>
    intro hm
    rcases ih (by omega) with ⟨i, hi, h1, h2⟩ | h
    · exact .inl ⟨i, by omega, h1, h2⟩
    · cases hf : f m with
      | true => exact .inl ⟨m, by omega, hf, h⟩
      | false =>
        refine .inr fun j hj => ?_
        by_cases e : j = m
        · subst e; exact hf
        · exact h j (by omega)
theorem none_barred' {l : List Ent} (h : First (barR l) l.length (-1)) : l.length ≤ 80 ∧ ∀ c ∈ l, Fit c := by
  obtain h | ⟨_, h⟩ := h
  · obtain ⟨i, _, h1, _⟩ := h; omega
  refine ⟨Classical.byContradiction fun hn => ?_, fun c hc => ?_⟩
  · have h80 := h 80 (by omega)
    have hc : l[80]? = some l[80] := List.getElem?_eq_getElem (by omega)
    rw [barR_shape hc (by simp [shapeR])] at h80; cases h80
  · obtain ⟨i, hi, rfl⟩ := List.getElem_of_mem hc
    exact barR_fit (List.getElem?_eq_getElem hi) (h i hi)
theorem none_wrong {l : List Ent} (h : First (wrongP l) l.length (-1)) : l.length ≤ 40 ∧ Lists l (treeOf l) := by
  obtain h | ⟨_, h⟩ := h
  · obtain ⟨i, _, h1, _⟩ := h; omega
  refine ⟨Classical.byContradiction fun hn => ?_, ?_⟩
  · have h40 := h 40 (by omega)
    have hc : l[40]? = some l[40] := List.getElem?_eq_getElem (by omega)
    rw [wrongP_eq hc] at h40; simp at h40
  · have := lists_take (k := l.length) (Nat.le_refl _) h
    rwa [List.take_length] at this
/-- what Patch answers, from outside -/
def patAll (a l : List Ent) (rx ry : Int) : List Ent × Int × Int := if rx ≠ -1 then ([], 2, rx) else if ry ≠ -1 then ([], 3, ry) else patchL a l
/-- an error as it is handed up -/
def ErrOut (W w' : World) (er : Value) (f k : Int) : Prop :=
  (f = 0 ∧ k = -1 ∧ er = .nilIface) ∨ (f ≠ 0 ∧ k = -1 ∧ er = .iface 24 (.int .i64 f)) ∨
  (∃ g : Nat, er = .iface 56 (.pointer (some ⟨g, 0, none⟩)) ∧ w'.cell? ⟨g, 0, none⟩ = some (.int .i64 f) ∧ w'.cell? ⟨g, 0 + 1, none⟩ = some (.int .i64 k))
theorem at_out (f k : Int) (W w : World) (hf : f ≠ 0) (hk : k = -1 ∨ 0 ≤ k) :
    Calls Tryz.prog 21 #[.int .i64 f, .int .i64 k] w fun e w' => ∃ er, e = .returned er ∧ ErrOut W w' er f k ∧ Below w.heap.size w w' := by
  rcases hk with rfl | hk
  · refine (atN_any f w hf).mono ?_
    rintro e w' ⟨rfl, hb⟩
    exact ⟨_, rfl, .inr (.inl ⟨hf, rfl, rfl⟩), hb⟩
  · obtain ⟨n, rfl⟩ : ∃ n : Nat, k = n := ⟨k.toNat, by omega⟩
    refine (atP_any f n w hf).mono ?_
    rintro e w' ⟨g, rfl, h0, h1, hb⟩
    exact ⟨_, rfl, .inr (.inr ⟨g, rfl, h0, h1⟩), hb⟩
theorem tell_out (er : Value) (f k : Int) (W w : World) (hg : ErrT w) (h : ErrOut W w er f k) :
    Calls Tryz.prog 11 #[er] w fun e w' => e = .returned (.tuple #[.int .i64 f, .int .i64 k]) ∧ Below w.heap.size w w' := by
  rcases h with ⟨rfl, rfl, rfl⟩ | ⟨_, rfl, rfl⟩ | ⟨g, rfl, h0, h1⟩
  · exact tell_nil w
  · exact tell_errno f w hg
  · exact tell_at g 0 f k w hg h0 h1
theorem patchL_place (a l : List Ent) : (patchL a l).2.2 = -1 ∨ 0 ≤ (patchL a l).2.2 := by
  unfold patchL
  split
  · right; simp
  · split
    · right; simp
    · split <;> simp
/-- what layers.Patch answers -/
def PatL (R : List Ent × Int × Int) (W : World) (e : Ending) (w' : World) : Prop :=
  ∃ v er, e = .returned (.tuple #[v, er]) ∧ OwnE w' W.heap.size v R.1 ∧ ErrOut W w' er R.2.1 R.2.2 ∧ Below W.heap.size W w'
set_option maxHeartbeats 4000000 in
theorem patL_any (a l : List Ent) (A B : Option Addr) (capA capB : Nat) (w : World) (hw : Std w) (ha : Rd w A (ents a)) (hb : Rd w B (ents l)) (hla : a.length ≤ 2000000000) (hll : l.length ≤ 2000000000)
    (hsa : ∀ e ∈ a, e.path.length ≤ 2000000000 ∧ e.data.length ≤ 2000000000) (hsl : ∀ e ∈ l, e.path.length ≤ 2000000000 ∧ e.data.length ≤ 2000000000) (rx ry : Int) (hx : First (wrongP a) a.length rx) (hy : First (barR l) l.length ry) :
    Calls Tryz.prog 10 #[.slice A a.length capA, .slice B l.length capB] w (PatL (patAll a l rx ry) w) := by
  have HW := Lib.hid hw
  have HOf := Lib.hid (of_any a A capA w hw ha hla hsa)
  have HBr := Lib.hid hb
  have HX := Lib.hid hx
  have HY := Lib.hid hy
  have HSl := Lib.hid hsl
  clear hw ha hb hsa hsl hx hy
  go_enter Tryz.func10, Tryz.ntmps10
  go_wp2_with fail
  refine HOf.out.mono ?_
  rintro e w1 ⟨r', hf, hb1, ho⟩
  obtain rfl := First.uniq HX.out hf (fun _ _ _ _ => rfl)
  have HB1 := Lib.hid hb1
  clear HOf hf hb1
  rcases ho with ⟨hr, t, a1, m1, rfl, hT, hV⟩ | ⟨k, hr, rfl⟩
  · have HT := Lib.hid hT
    have HV := Lib.hid hV
    clear hT hV
    obtain ⟨ha40, hLi⟩ := none_wrong (hr ▸ HX.out)
    have HLi := Lib.hid hLi
    have HRx := Lib.hid hr
    clear hr hLi
    go_wp2_with fail
    refine (valid_any l B capB w1 (HW.out.below HB1.out) (HBr.out.below HB1.out) hll HSl.out).mono ?_
    rintro e w2 ⟨r', rfl, hf, hb2⟩
    obtain rfl := bars_same HY.out hf
    have HB2 := Lib.hid (HB1.out.trans (hb2.mono HB1.out.size))
    have HT2 := Lib.hid (HT.out.below hb2)
    have HV2 := Lib.hid (HV.out.below hb2)
    clear hf hb2 HB1 HT HV
    rcases HY.out with ⟨k, hk, rfl, _⟩ | ⟨rfl, _⟩
    · have HE := Lib.hid (show patAll a l rx (k : Int) = ([], 3, (k : Int)) by unfold patAll; rw [if_neg (by rw [HRx.out]; decide), if_pos (by omega)])
      clear HY
      go_wp2_with fail
      refine (at_out 3 k w _ (by decide) (.inr (by omega))).mono ?_
      rintro e w3 ⟨er, rfl, ho, hb3⟩
      have HO := Lib.hid ho
      have HB3 := Lib.hid (HB2.out.trans (hb3.mono HB2.out.size))
      clear ho hb3
      go_wp2
      go_ret2
      exact ⟨_, _, rfl, by rw [HE.out]; exact World.ownsRow_nil _ _ _ _, by rw [HE.out]; exact HO.out, HB3.out⟩
    · obtain ⟨hl80, hfit⟩ := none_barred' HY.out
      have HFit := Lib.hid hfit
      have HE := Lib.hid (show patAll a l rx (-1) = patchL a l by unfold patAll; rw [if_neg (by rw [HRx.out]; decide), if_neg (by decide)])
      clear hfit HY
      go_wp2_with fail
      refine (patchP_any HT2.out (by omega) (HW.out.below HB2.out) t HV2.out a l HLi.out (by omega) B capB (HBr.out.below HB2.out) (by omega) HFit.out).mono ?_
      rintro e w3 ⟨hb3, ⟨f, k, hp, hf, rfl⟩ | ⟨t', a', m', N', G, L, hp, hLG, hL40, hT3, hV3, hN', rfl⟩⟩
      · have HB3 := Lib.hid (HB2.out.trans (hb3.mono HB2.out.size))
        have HP := Lib.hid (HE.out.trans hp)
        have hkk := patchL_place a l
        rw [hp] at hkk
        have f0 : (f != 0) = true := by rw [bne_iff_ne]; exact hf
        have HF := Lib.hid hf
        have HKk := Lib.hid hkk
        clear hb3 hp hf HE hkk
        go_wp2_with fail
        refine (at_out f k w _ HF.out HKk.out).mono ?_
        rintro e w4 ⟨er, rfl, ho, hb4⟩
        have HO := Lib.hid ho
        have HB4 := Lib.hid (HB3.out.trans (hb4.mono HB3.out.size))
        clear ho hb4
        go_wp2
        go_ret2
        exact ⟨_, _, rfl, by rw [HP.out]; exact World.ownsRow_nil _ _ _ _, by rw [HP.out]; exact HO.out, HB4.out⟩
      · have HB3 := Lib.hid (HB2.out.trans (hb3.mono HB2.out.size))
        have HP := Lib.hid (HE.out.trans hp)
        have HT3 := Lib.hid hT3
        have HV3 := Lib.hid hV3
        have HLG := Lib.hid hLG
        clear hb3 hp HE hT3 hV3 hLG
        go_wp2_with fail
        refine (list_any HT3.out HLG.out.fine (by omega) (HW.out.below HB3.out) t' HV3.out L (HLG.out.walk HT3.out.tree) (by omega) _ HLG.out.root).mono ?_
        rintro e w4 ⟨v, rfl, hown, hb4⟩
        have HB4 := Lib.hid (HB3.out.trans (hb4.mono HB3.out.size))
        have HO := Lib.hid (ownsRow_base hown HB3.out.size)
        clear hown hb4
        go_wp2
        go_ret2
        exact ⟨_, _, rfl, by rw [HP.out]; exact HO.out, by rw [HP.out]; exact .inl ⟨rfl, rfl, rfl⟩, HB4.out⟩
  · have HE := Lib.hid (show patAll a l rx ry = ([], 2, rx) by unfold patAll; rw [if_pos (by omega)])
    subst hr
    go_wp2_with fail
    refine (at_out 2 k w _ (by decide) (.inr (by omega))).mono ?_
    rintro e w3 ⟨er, rfl, ho, hb3⟩
    have HO := Lib.hid ho
    have HB3 := Lib.hid (HB1.out.trans (hb3.mono HB1.out.size))
    clear ho hb3
    go_wp2
    go_ret2
    exact ⟨_, _, rfl, by rw [HE.out]; exact World.ownsRow_nil _ _ _ _, by rw [HE.out]; exact HO.out, HB3.out⟩
set_option maxHeartbeats 4000000 in
theorem patPl_any (a l : List Ent) (A B : Option Addr) (capA capB : Nat) (w : World) (hw : Std w) (hg : ErrT w) (ha : Rd w A (ents a)) (hb : Rd w B (ents l)) (hla : a.length ≤ 2000000000) (hll : l.length ≤ 2000000000)
    (hsa : ∀ e ∈ a, e.path.length ≤ 2000000000 ∧ e.data.length ≤ 2000000000) (hsl : ∀ e ∈ l, e.path.length ≤ 2000000000 ∧ e.data.length ≤ 2000000000) (rx ry : Int) (hx : First (wrongP a) a.length rx) (hy : First (barR l) l.length ry) :
    Calls Tryz.prog 4 #[.slice A a.length capA, .slice B l.length capB] w fun e w' => ∃ v, e = .returned (.tuple #[v, .int .i64 (patAll a l rx ry).2.1, .int .i64 (patAll a l rx ry).2.2]) ∧ OwnE w' w.heap.size v (patAll a l rx ry).1 ∧ Below w.heap.size w w' := by
  have HL := Lib.hid (patL_any a l A B capA capB w hw ha hb hla hll hsa hsl rx ry hx hy)
  have HG := Lib.hid hg
  clear hw hg ha hb hsa hsl hx hy
  obtain ⟨R, hR⟩ : ∃ R, patAll a l rx ry = R := ⟨_, rfl⟩
  rw [hR] at HL ⊢
  clear hR
  obtain ⟨R0, R1, R2⟩ := R
  go_enter Tryz.func4, Tryz.ntmps4
  go_wp2_with fail
  refine HL.out.mono ?_
  rintro e w1 ⟨v, er, rfl, hown, ho, hb1⟩
  obtain ⟨av, cv, rfl⟩ := ownsRow_form hown
  have HO := Lib.hid ho
  have HOw := Lib.hid hown
  have HB := Lib.hid hb1
  clear ho hown hb1 HL
  go_wp2_with fail
  refine (tell_out er R1 R2 w w1 (HG.out.below HB.out) HO.out).mono ?_
  rintro e w2 ⟨rfl, hb2⟩
  have HB2 := Lib.hid (HB.out.trans (hb2.mono HB.out.size))
  have HOw2 := Lib.hid (ownsRow_below HOw.out hb2)
  clear hb2
  go_wp2
  go_ret3
  exact ⟨_, rfl, HOw2.out, HB2.out⟩
end Go.Proofs.YtjampkdbieoboaaGreatDoor
namespace Go.Proofs.YtjampkdbieoboaaGreatDoor
open Go.RowKit

theorem rd_own {w : World} {base : Nat} {e : TypeId} {size : Nat} {A : Option Addr} {n cap : Nat} {xs : List Value} (h : w.ownsRow base e size (.slice A n cap) n xs) : Rd w A xs := by
  obtain ⟨A', cap', e, _, _, r⟩ := Rd.of_own h
  cases e; exact r
def exGone : List Ent := [⟨[97], 4, 0, []⟩]
theorem first_none {f : Nat → Bool} {n : Nat} (h : (List.range n).all (fun i => !f i) = true) : First f n (-1) := by
  refine .inr ⟨rfl, fun j hj => ?_⟩
  have := List.all_eq_true.1 h j (List.mem_range.2 hj)
  simpa using this
theorem ex_tree : First (wrongP exTree) exTree.length (-1) := first_none (by kernel_rfl)
theorem ex_gone : First (barR exGone) exGone.length (-1) := first_none (by kernel_rfl)
theorem ex_pat : patAll exTree exGone (-1) (-1) = ([⟨[108], 3, 0, [97, 47, 120]⟩], 0, -1) := by kernel_rfl
set_option maxRecDepth 100000 in
set_option maxHeartbeats 8000000 in
theorem patches_any (a l : List Ent) (A B : Option Addr) (capA capB : Nat) (w : World) (hw : Std w) (hg : ErrT w) (ha : Rd w A (ents a)) (hb : Rd w B (ents l)) (hla : a.length ≤ 2000000000) (hll : l.length ≤ 2000000000)
    (hA : A = none → a.length = 0 ∧ capA = 0) (hc1 : a.length ≤ capA) (hc2 : capA ≤ maxLen)
    (hsa : ∀ e ∈ a, e.path.length ≤ 2000000000 ∧ e.data.length ≤ 2000000000) (hsl : ∀ e ∈ l, e.path.length ≤ 2000000000 ∧ e.data.length ≤ 2000000000) :
    Calls Tryz.prog 3 #[.slice A a.length capA, .slice B l.length capB] w fun e w' => e = .returned (.bool true) ∧ Below w.heap.size w w' := by
  obtain ⟨rx, hx⟩ := First.exists' (wrongP a) a.length
  obtain ⟨ry, hy⟩ := First.exists' (barR l) l.length
  have HW := Lib.hid hw
  have HG := Lib.hid hg
  have HRa := Lib.hid ha
  have HRb := Lib.hid hb
  have HSa := Lib.hid hsa
  have HSl := Lib.hid hsl
  have HX := Lib.hid hx
  have HY := Lib.hid hy
  have HA := Lib.hid hA
  clear hw hg ha hb hsa hsl hx hy hA
  go_enter Tryz.func3, Tryz.ntmps3
  go_wp2_with fail
  refine (tree_any w).mono ?_
  rintro e w1 ⟨A0, rfl, _, hr0, hb1⟩
  have HR1 := Lib.hid hr0
  have HB1 := Lib.hid hb1
  clear hr0 hb1
  go_wp2_with fail
  have hb2 := (Below.refl w1.heap.size w1).alloc (Nat.le_refl _) (.cells #[.string (S [97]), .int .i64 4, .int .i64 0, .string (S [])] 29)
  have HR2 := Lib.hid (rd_alloc w1 (ents exGone) 29)
  have HB2 := Lib.hid (HB1.out.trans (hb2.mono HB1.out.size))
  have HP := Lib.hid (patPl_any exTree exGone A0 (some ⟨w1.heap.size, 0, none⟩) 3 1 _ (HW.out.below HB2.out) (HG.out.below HB2.out) (HR1.out.below hb2) HR2.out (by decide) (by decide) (by decide) (by decide) (-1) (-1) ex_tree ex_gone)
  rw [ex_pat] at HP
  clear hb2
  refine HP.out.mono ?_
  rintro e w3 ⟨v, rfl, hown, hb3⟩
  obtain ⟨av, cv, rfl⟩ := ownsRow_form hown
  have HB3 := Lib.hid (HB2.out.trans (hb3.mono HB2.out.size))
  clear hown hb3 HP HR2
  go_wp2_with fail
  refine (patPl_any a l A B capA capB w3 (HW.out.below HB3.out) (HG.out.below HB3.out) (HRa.out.below HB3.out) (HRb.out.below HB3.out) hla hll HSa.out HSl.out rx ry HX.out HY.out).mono ?_
  rintro e w4 ⟨v, rfl, hown, hb4⟩
  obtain ⟨R, hR⟩ : ∃ R, patAll a l rx ry = R := ⟨_, rfl⟩
  rw [hR] at hown ⊢
  have HRr := Lib.hid hR
  clear hR
  obtain ⟨R0, R1, R2⟩ := R
  obtain ⟨at4, ct4, rfl⟩ := ownsRow_form hown
  have HOw4 := Lib.hid hown
  have HB4 := Lib.hid (HB3.out.trans (hb4.mono HB3.out.size))
  clear hown hb4 HB3 HB2
  go_wp2_with fail
  refine (wrongR_any a A capA w4 (HRa.out.below HB4.out) hla hc1 hc2 HSa.out).mono ?_
  rintro e w5 ⟨rx', rfl, hf, hb5⟩
  obtain rfl := wrongs_same HX.out hf
  have HB5 := Lib.hid (HB4.out.trans (hb5.mono HB4.out.size))
  have HOw5 := Lib.hid (ownsRow_below HOw4.out hb5)
  clear hf hb5 HOw4 HB4
  go_wp2_with fail
  refine (barred_any l B capB w5 (HRb.out.below HB5.out) hll HSl.out).mono ?_
  rintro e w6 ⟨ry', rfl, hf, hb6⟩
  obtain rfl := First.uniq HY.out hf (fun _ _ _ _ => rfl)
  have HB6 := Lib.hid (HB5.out.trans (hb6.mono HB5.out.size))
  have HOw6 := Lib.hid (ownsRow_below HOw5.out hb6)
  clear hf hb6 HOw5 HB5
  rcases HX.out with ⟨k, hk, rfl, _⟩ | ⟨rfl, _⟩
  · have hR := HRr.out
    unfold patAll at hR
    rw [if_pos (by omega)] at hR
    obtain ⟨rfl, rfl, rfl⟩ : [] = R0 ∧ 2 = R1 ∧ (k : Int) = R2 := by simpa using hR
    clear HX HRr hR
    go_wp2
    go_ret
    exact ⟨rfl, HB6.out⟩
  · rcases HY.out with ⟨k, hk, rfl, _⟩ | ⟨rfl, _⟩
    · have hR := HRr.out
      unfold patAll at hR
      rw [if_neg (by decide), if_pos (by omega)] at hR
      obtain ⟨rfl, rfl, rfl⟩ : [] = R0 ∧ 3 = R1 ∧ (k : Int) = R2 := by simpa using hR
      clear HX HY HRr hR
      go_wp2
      go_ret
      exact ⟨rfl, HB6.out⟩
    · have hR := HRr.out
      unfold patAll at hR
      rw [if_neg (by decide), if_neg (by decide)] at hR
      obtain ⟨ha40, hLi⟩ := none_wrong HX.out
      obtain ⟨hl80, hfit⟩ := none_barred' HY.out
      have HE := Lib.hid (hLi.each)
      have HFit := Lib.hid hfit
      have HRR := Lib.hid hR
      clear hLi hfit HX HY HRr hR
      go_wp2_with fail
      refine (patchR_any a l A B capA capB w6 (HRa.out.below HB6.out) (HRb.out.below HB6.out) HA.out (by omega) (by omega) (fun e he => by have := (pathB_ok (HE.out e he).1).1; omega) (fun e he => ⟨by have := (pathB_ok (HFit.out e he).1).1; omega, ?_⟩)).mono ?_
      · by_cases h4 : e.kind = 4
        · exact .inl h4
        · by_cases h5 : e.kind = 5
          · exact .inr (.inl h5)
          · exact .inr (.inr fun hp => h5 ((HFit.out e he).2.2 hp))
      rintro e w7 ⟨v7, rfl, hown, hb7⟩
      rw [HRR.out] at hown ⊢
      obtain ⟨at7, ct7, rfl⟩ := ownsRow_form hown
      have HB7 := Lib.hid (HB6.out.trans (hb7.mono HB6.out.size))
      have HR4 := Lib.hid (rd_own (ownsRow_below HOw6.out hb7))
      have HR7 := Lib.hid (rd_own hown)
      have hlen : R0.length ≤ 2000000000 := by
        have : (patchL a l).1.length ≤ 40 := by
          unfold patchL
          split
          · simp
          · split
            · simp
            · split
              · simp
              · rename_i h; simpa using h
        rw [HRR.out] at this
        simp only at this; omega
      clear hown hb7 HOw6
      go_wp2_with fail
      refine (sameE_any R0 at4 at7 ct4 ct7 w7 HR4.out HR7.out hlen).mono ?_
      rintro e w8 ⟨rfl, hb8⟩
      have HB8 := Lib.hid (HB7.out.trans (hb8.mono HB7.out.size))
      have f1 : (R1 == R1) = true := by simp
      have f2 : (R2 == R2) = true := by simp
      clear hb8
      go_wp2
      go_ret
      exact ⟨rfl, HB8.out⟩
end Go.Proofs.YtjampkdbieoboaaGreatDoor
