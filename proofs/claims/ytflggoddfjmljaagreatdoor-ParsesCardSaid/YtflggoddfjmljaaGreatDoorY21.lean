/-
  The document's answer: a FROM with a name: the walk.
  The step under way in memory; looks on the last stage's row.
-/
import Derived.Test.YtflggoddfjmljaaGreatDoorY05
set_option linter.unusedVariables false
set_option linter.unusedSimpArgs false
namespace Go.Proofs.YtflggoddfjmljaaGreatDoor
open Go.RowKit

set_option maxRecDepth 100000 in
set_option maxHeartbeats 6000000 in
theorem fromR_b (st : List StageG) (ws : List WordG) (B : Nat) (ao : Option Addr) (b o c d : Nat) (w : World) (hst : StagesR B w st ao c) (hB : B ≤ w.heap.size) (hs5 : st.length ≤ 5) (hv5 : ∀ x ∈ st, x.vars.length ≤ 100) (hws : WordsR w (some ⟨b, o, none⟩) ws) (hg : GoodW ws) (hl2 : 2 ≤ ws.length) (hl2' : ¬ ws.length = 2) (hl4 : ws.length ≤ 4) (hd : ws.length ≤ d) (hd2 : d ≤ maxLen) :
    Calls Tryz.prog 13 #[.slice ao st.length c, .slice (some ⟨b, o, none⟩) ws.length d] w fun e w' => stagesOut B w' e (fromB st ws) ∧ Below B w w' ∧ KeepX w w' := by
  unfold maxLen at hd2
  obtain ⟨i0, hi0, hz0, hz1, hz2⟩ := info_parts (show (Tryz.prog.info? 56).map (fun i => (i.zero, i.size, i.bytes)) = some (some (.agg #[.string ByteArray.empty, .int .i64 0, .slice none 0 0, .slice none 0 0]), 4, 72) by kernel_rfl)
  obtain ⟨i1, hi1, hz3, hz4, hz5⟩ := info_parts (show (Tryz.prog.info? 9).map (fun i => (i.zero, i.size, i.bytes)) = some (some (.string ByteArray.empty), 1, 16) by kernel_rfl)
  obtain ⟨scs, hso, hsc⟩ := hst.all
  have hrs := (RdT.of_own hso).rd
  have hnm : ∀ k (h : k < st.length), scs[k * 4]? = some (.string (S st[k].name)) := fun k h => by
    obtain ⟨_, _, h1, _⟩ := hsc.get k h; exact h1
  have hsl := hsc.len
  obtain ⟨hb, a0, c0, m0, m0', r0⟩ := hws.at 0 (by omega)
  obtain ⟨-, a1, c1, m1, m1', r1⟩ := hws.at 1 (by omega)
  have hg1 := hg.nth 1 (by omega)
  have HW := Lib.hid hws
  have HR := Lib.hid hrs
  have HN := Lib.hid hnm
  have HSL := Lib.hid hsl
  have HR1 := Lib.hid r1
  have HG1 := Lib.hid hg1
  have HG := Lib.hid hg
  have HSO := Lib.hid hso
  have HSC := Lib.hid hsc
  have HV5 := Lib.hid hv5
  have htl1 := (nth ws 1).text_len
  simp only [Nat.zero_mul, Nat.add_zero, Nat.one_mul] at m0 m0' m1 m1'
  have F := Lib.hid (show ∀ wx, Below w.heap.size w wx → wx.cell? ⟨b, o + 1, none⟩ = some (.int .i64 (nth ws 0).at_) ∧ wx.cell? ⟨b, o + 2, none⟩ = some (.slice a1 (nth ws 1).l.length c1) ∧ wx.cell? ⟨b, o + 2 + 1, none⟩ = some (.int .i64 (nth ws 1).at_) from fun wx hx => ⟨(hx.cell (p := ⟨b, o + 1, none⟩) hb).trans m0', (hx.cell (p := ⟨b, o + 2, none⟩) hb).trans m1, (hx.cell (p := ⟨b, o + 2 + 1, none⟩) hb).trans m1'⟩)
  clear hst hso hsc hrs hnm hsl hws hg hg1 r0 r1 hv5
  have P := Lib.hid (Blk2.new w (.int .i64 0) (.int .i64 0) tFault)
  have PT := Lib.hid (BlkT.new w #[.int .i64 0, .int .i64 0] tFault)
  have HB := Lib.hid (show Below w.heap.size w (w.alloc (.cells #[.int .i64 0, .int .i64 0] tFault)) from (Below.refl _ _).alloc (Nat.le_refl _) _)
  · obtain ⟨-, a2, c2, m2, m2', r2⟩ := HW.out.at 2 (by omega)
    have HR2 := Lib.hid r2
    have HG2 := Lib.hid (HG.out.nth 2 (by omega))
    simp only [show 2 * 2 = 4 from rfl] at m2 m2'
    clear r2
    by_cases hl3' : ws.length = 3
    · have F2 := Lib.hid (show ∀ wx, Below w.heap.size w wx → wx.cell? ⟨b, o + 4, none⟩ = some (.slice a2 (nth ws 2).l.length c2) ∧ wx.cell? ⟨b, o + 4 + 1, none⟩ = some (.int .i64 (nth ws 2).at_) ∧ True ∧ True from fun wx hx => ⟨(hx.cell (p := ⟨b, o + 4, none⟩) hb).trans m2, (hx.cell (p := ⟨b, o + 4 + 1, none⟩) hb).trans m2', trivial, trivial⟩)
      have hl3 : ((ws.length : Int) == 3) = true := by rw [hl3']; rfl
      by_cases has : (nth ws 2).text = wAS
      · have has' : ((nth ws 2).text == [65, 83]) = true := by rw [has]; decide
        have Y := Lib.hid (show fromB st ws = .error (5, (nth ws 0).at_) by unfold fromB nameB; rw [if_pos (.inl hl3'), if_neg (by simpa using has), if_pos hl3'])
        have hlen : 3 ≤ ws.length := by omega
        clear has hl3' hl2'
        go_enter Tryz.func13, Tryz.ntmps13
        go_wp2_with (first
          | (go_at_call 11; refine (plainR_any _ _ _ _ (by first | exact HG1.out.1 | exact HG2.out.1) (by first | (have := HG1.out.2; omega) | (have := HG2.out.2; omega)) (ownsRow_below (by first | exact HR1.out | exact HR2.out) HB.out)).mono ?_; rintro e2 w2 ⟨rfl, hb2⟩; have P := Lib.hid (P.out.after hb2); have PT := Lib.hid (PT.out.after hb2); have HB := Lib.hid (HB.out.trans (hb2.mono HB.out.size)); have hzz := HB.out.size; obtain ⟨n0, n1, n2⟩ := F.out _ HB.out; clear hb2; obtain ⟨n3, n4, n5, n6⟩ := F2.out _ HB.out)
          | (go_at_call 9; refine (bad_any _ _ _).mono ?_; rintro e8 w8 ⟨rfl, hb2⟩; simp only [faultV]; have P := Lib.hid (P.out.after hb2); have PT := Lib.hid (PT.out.after hb2); have HB := Lib.hid (HB.out.trans (hb2.mono HB.out.size)); have hzz := HB.out.size; obtain ⟨n0, n1, n2⟩ := F.out _ HB.out; clear hb2; obtain ⟨d0, d1, d2, d3⟩ := P.out.facts))
        refine bodyPost_ret (by simp [results, Tryz.results13, go_sem, d0, d1]; try rfl) rfl ?_
        exact ⟨stagesOut_err Y.out rfl, two_new (st := st) (ao := none) (c := c) hB (HB.out.mono hB) (KeepX.below HB.out) (Nat.le_refl _) _ _⟩
      · have has' : ((nth ws 2).text == [65, 83]) = false := by simpa using (show ¬ (nth ws 2).text = [65, 83] from has)
        have Y := Lib.hid (show fromB st ws = .error (5, (nth ws 2).at_) by unfold fromB nameB; rw [if_pos (.inl hl3'), if_pos has])
        have hlen : 3 ≤ ws.length := by omega
        clear has hl3' hl2'
        go_enter Tryz.func13, Tryz.ntmps13
        go_wp2_with (first
          | (go_at_call 11; refine (plainR_any _ _ _ _ (by first | exact HG1.out.1 | exact HG2.out.1) (by first | (have := HG1.out.2; omega) | (have := HG2.out.2; omega)) (ownsRow_below (by first | exact HR1.out | exact HR2.out) HB.out)).mono ?_; rintro e2 w2 ⟨rfl, hb2⟩; have P := Lib.hid (P.out.after hb2); have PT := Lib.hid (PT.out.after hb2); have HB := Lib.hid (HB.out.trans (hb2.mono HB.out.size)); have hzz := HB.out.size; obtain ⟨n0, n1, n2⟩ := F.out _ HB.out; clear hb2; obtain ⟨n3, n4, n5, n6⟩ := F2.out _ HB.out)
          | (go_at_call 9; refine (bad_any _ _ _).mono ?_; rintro e8 w8 ⟨rfl, hb2⟩; simp only [faultV]; have P := Lib.hid (P.out.after hb2); have PT := Lib.hid (PT.out.after hb2); have HB := Lib.hid (HB.out.trans (hb2.mono HB.out.size)); have hzz := HB.out.size; obtain ⟨n0, n1, n2⟩ := F.out _ HB.out; clear hb2; obtain ⟨d0, d1, d2, d3⟩ := P.out.facts))
        refine bodyPost_ret (by simp [results, Tryz.results13, go_sem, d0, d1]; try rfl) rfl ?_
        exact ⟨stagesOut_err Y.out rfl, two_new (st := st) (ao := none) (c := c) hB (HB.out.mono hB) (KeepX.below HB.out) (Nat.le_refl _) _ _⟩
    · have hl44 : ws.length = 4 := by omega
      obtain ⟨-, a3, c3, m3, m3', r3⟩ := HW.out.at 3 (by omega)
      have HR3 := Lib.hid r3
      have HG3 := Lib.hid (HG.out.nth 3 (by omega))
      simp only [show 3 * 2 = 6 from rfl] at m3 m3'
      clear r3
      have htl3 := (nth ws 3).text_len
      have F2 := Lib.hid (show ∀ wx, Below w.heap.size w wx → wx.cell? ⟨b, o + 4, none⟩ = some (.slice a2 (nth ws 2).l.length c2) ∧ wx.cell? ⟨b, o + 4 + 1, none⟩ = some (.int .i64 (nth ws 2).at_) ∧ wx.cell? ⟨b, o + 6, none⟩ = some (.slice a3 (nth ws 3).l.length c3) ∧ wx.cell? ⟨b, o + 6 + 1, none⟩ = some (.int .i64 (nth ws 3).at_) from fun wx hx => ⟨(hx.cell (p := ⟨b, o + 4, none⟩) hb).trans m2, (hx.cell (p := ⟨b, o + 4 + 1, none⟩) hb).trans m2', (hx.cell (p := ⟨b, o + 6, none⟩) hb).trans m3, (hx.cell (p := ⟨b, o + 6 + 1, none⟩) hb).trans m3'⟩)
      have hl3 : ((ws.length : Int) == 3) = false := by rw [hl44]; rfl
      have hl4' : ((ws.length : Int) == 4) = true := by rw [hl44]; rfl
      by_cases has : (nth ws 2).text = wAS
      · have has' : ((nth ws 2).text == [65, 83]) = true := by rw [has]; decide
        cases hs3 : stageB (nth ws 3).text
        · have HS3 := Lib.hid hs3
          have Y := Lib.hid (show fromB st ws = .error (5, (nth ws 3).at_) by unfold fromB nameB; rw [if_pos (.inr hl44), if_neg (by simpa using has), if_neg hl3', if_pos hs3])
          have hlen : 4 ≤ ws.length := by omega
          clear has hs3 hl3' hl2' hl44
          go_enter Tryz.func13, Tryz.ntmps13
          go_wp2_with (first
            | (go_at_call 11; refine (plainR_any _ _ _ _ (by first | exact HG1.out.1 | exact HG2.out.1 | exact HG3.out.1) (by first | (have := HG1.out.2; omega) | (have := HG2.out.2; omega) | (have := HG3.out.2; omega)) (ownsRow_below (by first | exact HR1.out | exact HR2.out | exact HR3.out) HB.out)).mono ?_; rintro e2 w2 ⟨rfl, hb2⟩; have P := Lib.hid (P.out.after hb2); have PT := Lib.hid (PT.out.after hb2); have HB := Lib.hid (HB.out.trans (hb2.mono HB.out.size)); have hzz := HB.out.size; obtain ⟨n0, n1, n2⟩ := F.out _ HB.out; clear hb2; obtain ⟨n3, n4, n5, n6⟩ := F2.out _ HB.out)
            | (go_at_call 24; refine (stageNameR_any _ _ (by first | (have := HG3.out.2; omega))).mono ?_; rintro e4 w4 ⟨rfl, rfl⟩; first | rw [HS3.out])
            | (go_at_call 9; refine (bad_any _ _ _).mono ?_; rintro e8 w8 ⟨rfl, hb2⟩; simp only [faultV]; have P := Lib.hid (P.out.after hb2); have PT := Lib.hid (PT.out.after hb2); have HB := Lib.hid (HB.out.trans (hb2.mono HB.out.size)); have hzz := HB.out.size; obtain ⟨n0, n1, n2⟩ := F.out _ HB.out; clear hb2; obtain ⟨d0, d1, d2, d3⟩ := P.out.facts))
          refine bodyPost_ret (by simp [results, Tryz.results13, go_sem, d0, d1]; try rfl) rfl ?_
          exact ⟨stagesOut_err Y.out rfl, two_new (st := st) (ao := none) (c := c) hB (HB.out.mono hB) (KeepX.below HB.out) (Nat.le_refl _) _ _⟩
        · have HS3 := Lib.hid hs3
          have HNB := Lib.hid (show nameB ws = .ok (nth ws 3).text by unfold nameB; rw [if_pos (.inr hl44), if_neg (by simpa using has), if_neg hl3', if_neg (by simp [hs3])])
          have HNE := Lib.hid (show (nth ws 3).text ≠ [] by intro e; rw [e] at hs3; cases hs3)
          have hne : ((nth ws 3).text == []) = false := by simpa using HNE.out
          have hne' : ((nth ws 3).text != []) = true := by simpa using HNE.out
          have hne2 : (nth ws 3).text.isEmpty = false := by simpa using HNE.out
          have hlen : 4 ≤ ws.length := by omega
          clear has hs3 hl3' hl2' hl44
          cases hs : stageB (nth ws 1).text
          · have Y := Lib.hid (show fromB st ws = .error (5, (nth ws 1).at_) by unfold fromB; rw [HNB.out]; simp [hs])
            obtain ⟨k, hk⟩ : ∃ k, calledB st (nth ws 1).text = k := ⟨_, rfl⟩
            have HS1 := Lib.hid hs
            have HC1 := Lib.hid hk
            clear hs hk
            go_enter Tryz.func13, Tryz.ntmps13
            go_wp2_with (first
              | (go_at_call 11; refine (plainR_any _ _ _ _ (by first | exact HG1.out.1 | exact HG2.out.1 | exact HG3.out.1) (by first | (have := HG1.out.2; omega) | (have := HG2.out.2; omega) | (have := HG3.out.2; omega)) (ownsRow_below (by first | exact HR1.out | exact HR2.out | exact HR3.out) HB.out)).mono ?_; rintro e2 w2 ⟨rfl, hb2⟩; have P := Lib.hid (P.out.after hb2); have PT := Lib.hid (PT.out.after hb2); have HB := Lib.hid (HB.out.trans (hb2.mono HB.out.size)); have hzz := HB.out.size; obtain ⟨n0, n1, n2⟩ := F.out _ HB.out; clear hb2; obtain ⟨n3, n4, n5, n6⟩ := F2.out _ HB.out)
              | (go_at_call 24; refine (stageNameR_any _ _ (by first | (have := HG1.out.2; omega) | (have := HG3.out.2; omega))).mono ?_; rintro e4 w4 ⟨rfl, rfl⟩; first | rw [HS1.out] | rw [HS3.out])
              | (go_at_call 25; refine (calledR_any st _ _ c scs _ (by omega) (HR.out.below HB.out) HSL.out HN.out).mono ?_; rintro e5 w5 ⟨rfl, rfl⟩; first | rw [HC1.out])
              | (go_at_call 9; refine (bad_any _ _ _).mono ?_; rintro e8 w8 ⟨rfl, hb2⟩; simp only [faultV]; have P := Lib.hid (P.out.after hb2); have PT := Lib.hid (PT.out.after hb2); have HB := Lib.hid (HB.out.trans (hb2.mono HB.out.size)); have hzz := HB.out.size; obtain ⟨n0, n1, n2⟩ := F.out _ HB.out; clear hb2; obtain ⟨d0, d1, d2, d3⟩ := P.out.facts))
            refine bodyPost_ret (by simp [results, Tryz.results13, go_sem, d0, d1]; try rfl) rfl ?_
            exact ⟨stagesOut_err Y.out rfl, two_new (st := st) (ao := none) (c := c) hB (HB.out.mono hB) (KeepX.below HB.out) (Nat.le_refl _) _ _⟩
          · have HS1 := Lib.hid hs
            rcases calledB_cases st (nth ws 1).text with hk | ⟨k, hkl, hk⟩
            · have HC1 := Lib.hid hk
              by_cases hsc : (nth ws 1).text = wSCRATCH
              · have hsc' : ((nth ws 1).text == [115, 99, 114, 97, 116, 99, 104]) = true := by rw [hsc]; decide
                have HQ := Lib.hid (show ∀ r, (if stageB (nth ws 1).text = false then (.error (5, (nth ws 1).at_) : Except Flt (List StageG)) else if calledB st (nth ws 1).text < 0 ∧ (nth ws 1).text ≠ wSCRATCH then .error (6, (nth ws 1).at_) else r) = r from fun r => by rw [hs, hk]; simp [hsc])
                have HVO := Lib.hid (show varsOf st (calledB st (nth ws 1).text) = [] by rw [hk]; exact varsOf_neg (by omega))
                have HK := Lib.hid hk
                clear hs hk hsc
                by_cases hns : (nth ws 3).text = wSCRATCH
                · have hns' : ((nth ws 3).text == [115, 99, 114, 97, 116, 99, 104]) = true := by rw [hns]; decide
                  have Y := Lib.hid (show fromB st ws = .error (6, (nth ws 3).at_) by unfold fromB; rw [HNB.out]; simp only; rw [HQ.out, if_pos ⟨HNE.out, .inl hns⟩])
                  clear hns
                  go_enter Tryz.func13, Tryz.ntmps13
                  go_wp2_with (first
                    | (go_at_call 11; refine (plainR_any _ _ _ _ (by first | exact HG1.out.1 | exact HG2.out.1 | exact HG3.out.1) (by first | (have := HG1.out.2; omega) | (have := HG2.out.2; omega) | (have := HG3.out.2; omega)) (ownsRow_below (by first | exact HR1.out | exact HR2.out | exact HR3.out) HB.out)).mono ?_; rintro e2 w2 ⟨rfl, hb2⟩; have P := Lib.hid (P.out.after hb2); have PT := Lib.hid (PT.out.after hb2); have HB := Lib.hid (HB.out.trans (hb2.mono HB.out.size)); have hzz := HB.out.size; obtain ⟨n0, n1, n2⟩ := F.out _ HB.out; clear hb2; obtain ⟨n3, n4, n5, n6⟩ := F2.out _ HB.out)
                    | (go_at_call 24; refine (stageNameR_any _ _ (by first | (have := HG1.out.2; omega) | (have := HG3.out.2; omega))).mono ?_; rintro e4 w4 ⟨rfl, rfl⟩; first | rw [HS1.out] | rw [HS3.out])
                    | (go_at_call 25; refine (calledR_any st _ _ c scs _ (by omega) (HR.out.below HB.out) HSL.out HN.out).mono ?_; rintro e5 w5 ⟨rfl, rfl⟩; first | rw [HC1.out])
                    | (go_at_call 9; refine (bad_any _ _ _).mono ?_; rintro e8 w8 ⟨rfl, hb2⟩; simp only [faultV]; have P := Lib.hid (P.out.after hb2); have PT := Lib.hid (PT.out.after hb2); have HB := Lib.hid (HB.out.trans (hb2.mono HB.out.size)); have hzz := HB.out.size; obtain ⟨n0, n1, n2⟩ := F.out _ HB.out; clear hb2; obtain ⟨d0, d1, d2, d3⟩ := P.out.facts))
                  refine bodyPost_ret (by simp [results, Tryz.results13, go_sem, d0, d1]; try rfl) rfl ?_
                  exact ⟨stagesOut_err Y.out rfl, two_new (st := st) (ao := none) (c := c) hB (HB.out.mono hB) (KeepX.below HB.out) (Nat.le_refl _) _ _⟩
                · have hns' : ((nth ws 3).text == [115, 99, 114, 97, 116, 99, 104]) = false := by simpa using (show ¬ (nth ws 3).text = [115, 99, 114, 97, 116, 99, 104] from hns)
                  rcases calledB_cases st (nth ws 3).text with hk3 | ⟨k3, hkl3, hk3⟩
                  · have HC3 := Lib.hid hk3
                    have HQ2 := Lib.hid (show ∀ r : Except Flt (List StageG), (if (nth ws 3).text ≠ [] ∧ ((nth ws 3).text = wSCRATCH ∨ 0 ≤ calledB st (nth ws 3).text) then .error (6, (nth ws 3).at_) else r) = r from fun r => by rw [if_neg]; rw [hk3]; rintro ⟨_, h | h⟩; exact hns h; omega)
                    clear hns hk3
                    by_cases h5 : st.length = 5
                    · have h5' : ((st.length : Int) == 5) = true := by rw [h5]; rfl
                      have Y := Lib.hid (show fromB st ws = .error (10, (nth ws 0).at_) by unfold fromB; rw [HNB.out]; simp only; rw [HQ.out, HQ2.out, if_pos h5])
                      clear h5
                      go_enter Tryz.func13, Tryz.ntmps13
                      go_wp2_with (first
                        | (go_at_call 11; refine (plainR_any _ _ _ _ (by first | exact HG1.out.1 | exact HG2.out.1 | exact HG3.out.1) (by first | (have := HG1.out.2; omega) | (have := HG2.out.2; omega) | (have := HG3.out.2; omega)) (ownsRow_below (by first | exact HR1.out | exact HR2.out | exact HR3.out) HB.out)).mono ?_; rintro e2 w2 ⟨rfl, hb2⟩; have P := Lib.hid (P.out.after hb2); have PT := Lib.hid (PT.out.after hb2); have HB := Lib.hid (HB.out.trans (hb2.mono HB.out.size)); have hzz := HB.out.size; obtain ⟨n0, n1, n2⟩ := F.out _ HB.out; clear hb2; obtain ⟨n3, n4, n5, n6⟩ := F2.out _ HB.out)
                        | (go_at_call 24; refine (stageNameR_any _ _ (by first | (have := HG1.out.2; omega) | (have := HG3.out.2; omega))).mono ?_; rintro e4 w4 ⟨rfl, rfl⟩; first | rw [HS1.out] | rw [HS3.out])
                        | (go_at_call 25; refine (calledR_any st _ _ c scs _ (by omega) (HR.out.below HB.out) HSL.out HN.out).mono ?_; rintro e5 w5 ⟨rfl, rfl⟩; first | rw [HC1.out] | rw [HC3.out])
                        | (go_at_call 9; refine (bad_any _ _ _).mono ?_; rintro e8 w8 ⟨rfl, hb2⟩; simp only [faultV]; have P := Lib.hid (P.out.after hb2); have PT := Lib.hid (PT.out.after hb2); have HB := Lib.hid (HB.out.trans (hb2.mono HB.out.size)); have hzz := HB.out.size; obtain ⟨n0, n1, n2⟩ := F.out _ HB.out; clear hb2; obtain ⟨d0, d1, d2, d3⟩ := P.out.facts))
                      refine bodyPost_ret (by simp [results, Tryz.results13, go_sem, d0, d1]; try rfl) rfl ?_
                      exact ⟨stagesOut_err Y.out rfl, two_new (st := st) (ao := none) (c := c) hB (HB.out.mono hB) (KeepX.below HB.out) (Nat.le_refl _) _ _⟩
                    · have h5' : ((st.length : Int) == 5) = false := by rw [beq_eq_false_iff_ne]; omega
                      have Y := Lib.hid (show fromB st ws = .ok (st ++ [⟨(nth ws 3).text, -1, [], []⟩]) by unfold fromB; rw [HNB.out]; simp only; rw [HQ.out, HQ2.out, if_neg h5, HVO.out, HK.out])
                      go_enter Tryz.func13, Tryz.ntmps13
                      go_wp2_with (first
                        | (go_at_call 11; refine (plainR_any _ _ _ _ (by first | exact HG1.out.1 | exact HG2.out.1 | exact HG3.out.1) (by first | (have := HG1.out.2; omega) | (have := HG2.out.2; omega) | (have := HG3.out.2; omega)) (ownsRow_below (by first | exact HR1.out | exact HR2.out | exact HR3.out) HB.out)).mono ?_; rintro e2 w2 ⟨rfl, hb2⟩; have P := Lib.hid (P.out.after hb2); have PT := Lib.hid (PT.out.after hb2); have HB := Lib.hid (HB.out.trans (hb2.mono HB.out.size)); have hzz := HB.out.size; obtain ⟨n0, n1, n2⟩ := F.out _ HB.out; clear hb2; obtain ⟨n3, n4, n5, n6⟩ := F2.out _ HB.out)
                        | (go_at_call 24; refine (stageNameR_any _ _ (by first | (have := HG1.out.2; omega) | (have := HG3.out.2; omega))).mono ?_; rintro e4 w4 ⟨rfl, rfl⟩; first | rw [HS1.out] | rw [HS3.out])
                        | (go_at_call 25; refine (calledR_any st _ _ c scs _ (by omega) (HR.out.below HB.out) HSL.out HN.out).mono ?_; rintro e5 w5 ⟨rfl, rfl⟩; first | rw [HC1.out] | rw [HC3.out])
                        | (at_builtin; refine wpList_append_own _ rfl _ _ 25 rfl B tStage i0 (.agg #[.string ByteArray.empty, .int .i64 0, .slice none 0 0, .slice none 0 0]) 4 72 Tryz.underlying25 hi0 hz0 hz1 hz2 rfl (by decide) _ _ _ rfl (ownsRow_below HSO.out ((HB.out.alloc (by omega) _).alloc (by simp; omega) _)) ⟨_, 0, none⟩ 1 1 [.string (S (nth ws 3).text), .int .i64 (-1), .slice none 0 0, .slice none 0 0] rfl rfl (cells4_at _ _ _ _ _ _ _ (by simp)) (by simp [Value.oneCell']) (by unfold maxLen; omega) (by omega) (by simp; omega) ?_; intro v' w3 hown3 hgr3 _; obtain ⟨ao', c', rfl⟩ := ownsRow_form hown3; have PP := StagesR.push (x := ⟨(nth ws 3).text, -1, [], []⟩) HSO.out HSC.out ((HB.out.alloc (by omega) _).alloc (by simp; omega) _) hgr3 ⟨⟨[], World.ownsRow_nil _ _ _ _, rfl⟩, World.ownsRow_nil _ _ _ _, by simp [Value.ownBlock], by simp [Value.ownBlock]⟩ hown3 hB; have HP := Lib.hid PP.1; have HX := Lib.hid PP.2; have P := Lib.hid (((P.out.alloc _).alloc _).grown hgr3 (own_new HSO.out)); have PT := Lib.hid (((PT.out.alloc _).alloc _).grown hgr3 (own_new HSO.out)); have HB3 := Lib.hid ((((HB.out.alloc (by omega) _).alloc (by simp; omega) _).mono hB).grown hgr3 (by simp; omega) (own_le HSO.out)); clear hown3 hgr3 PP)
                        | (go_at_call 15; refine (fine_any _).mono ?_; rintro e8 w8 ⟨rfl, hb8⟩; simp only [faultV]; obtain ⟨d0, d1, d2, d3⟩ := (P.out.after hb8).facts; have HB8 := Lib.hid hb8; clear hb8))
                      refine bodyPost_ret (by simp [results, Tryz.results13, go_sem, d0, d1]; try rfl) rfl ?_
                      exact ⟨stagesOut_ok Y.out (by simp) rfl ((HP.out.after HB8.out).two (PT.out.after HB8.out) _ _), two_new (st := st) (ao := none) (c := c) hB (HB3.out.trans (HB8.out.mono (Nat.le_trans hB HB3.out.size))) (HX.out.trans (KeepX.below HB8.out)) (Nat.le_refl _) _ _⟩
                  · have HC3 := Lib.hid hk3
                    have Y := Lib.hid (show fromB st ws = .error (6, (nth ws 3).at_) by unfold fromB; rw [HNB.out]; simp only; rw [HQ.out, if_pos ⟨HNE.out, .inr (by omega)⟩])
                    clear hns hk3
                    go_enter Tryz.func13, Tryz.ntmps13
                    go_wp2_with (first
                      | (go_at_call 11; refine (plainR_any _ _ _ _ (by first | exact HG1.out.1 | exact HG2.out.1 | exact HG3.out.1) (by first | (have := HG1.out.2; omega) | (have := HG2.out.2; omega) | (have := HG3.out.2; omega)) (ownsRow_below (by first | exact HR1.out | exact HR2.out | exact HR3.out) HB.out)).mono ?_; rintro e2 w2 ⟨rfl, hb2⟩; have P := Lib.hid (P.out.after hb2); have PT := Lib.hid (PT.out.after hb2); have HB := Lib.hid (HB.out.trans (hb2.mono HB.out.size)); have hzz := HB.out.size; obtain ⟨n0, n1, n2⟩ := F.out _ HB.out; clear hb2; obtain ⟨n3, n4, n5, n6⟩ := F2.out _ HB.out)
                      | (go_at_call 24; refine (stageNameR_any _ _ (by first | (have := HG1.out.2; omega) | (have := HG3.out.2; omega))).mono ?_; rintro e4 w4 ⟨rfl, rfl⟩; first | rw [HS1.out] | rw [HS3.out])
                      | (go_at_call 25; refine (calledR_any st _ _ c scs _ (by omega) (HR.out.below HB.out) HSL.out HN.out).mono ?_; rintro e5 w5 ⟨rfl, rfl⟩; first | rw [HC1.out] | rw [HC3.out])
                      | (go_at_call 9; refine (bad_any _ _ _).mono ?_; rintro e8 w8 ⟨rfl, hb2⟩; simp only [faultV]; have P := Lib.hid (P.out.after hb2); have PT := Lib.hid (PT.out.after hb2); have HB := Lib.hid (HB.out.trans (hb2.mono HB.out.size)); have hzz := HB.out.size; obtain ⟨n0, n1, n2⟩ := F.out _ HB.out; clear hb2; obtain ⟨d0, d1, d2, d3⟩ := P.out.facts))
                    refine bodyPost_ret (by simp [results, Tryz.results13, go_sem, d0, d1]; try rfl) rfl ?_
                    exact ⟨stagesOut_err Y.out rfl, two_new (st := st) (ao := none) (c := c) hB (HB.out.mono hB) (KeepX.below HB.out) (Nat.le_refl _) _ _⟩
              · have hsc' : ((nth ws 1).text == [115, 99, 114, 97, 116, 99, 104]) = false := by simpa using (show ¬ (nth ws 1).text = [115, 99, 114, 97, 116, 99, 104] from hsc)
                have Y := Lib.hid (show fromB st ws = .error (6, (nth ws 1).at_) by unfold fromB; rw [HNB.out]; simp [hs, hk, hsc])
                clear hs hk hsc
                go_enter Tryz.func13, Tryz.ntmps13
                go_wp2_with (first
                  | (go_at_call 11; refine (plainR_any _ _ _ _ (by first | exact HG1.out.1 | exact HG2.out.1 | exact HG3.out.1) (by first | (have := HG1.out.2; omega) | (have := HG2.out.2; omega) | (have := HG3.out.2; omega)) (ownsRow_below (by first | exact HR1.out | exact HR2.out | exact HR3.out) HB.out)).mono ?_; rintro e2 w2 ⟨rfl, hb2⟩; have P := Lib.hid (P.out.after hb2); have PT := Lib.hid (PT.out.after hb2); have HB := Lib.hid (HB.out.trans (hb2.mono HB.out.size)); have hzz := HB.out.size; obtain ⟨n0, n1, n2⟩ := F.out _ HB.out; clear hb2; obtain ⟨n3, n4, n5, n6⟩ := F2.out _ HB.out)
                  | (go_at_call 24; refine (stageNameR_any _ _ (by first | (have := HG1.out.2; omega) | (have := HG3.out.2; omega))).mono ?_; rintro e4 w4 ⟨rfl, rfl⟩; first | rw [HS1.out] | rw [HS3.out])
                  | (go_at_call 25; refine (calledR_any st _ _ c scs _ (by omega) (HR.out.below HB.out) HSL.out HN.out).mono ?_; rintro e5 w5 ⟨rfl, rfl⟩; first | rw [HC1.out])
                  | (go_at_call 9; refine (bad_any _ _ _).mono ?_; rintro e8 w8 ⟨rfl, hb2⟩; simp only [faultV]; have P := Lib.hid (P.out.after hb2); have PT := Lib.hid (PT.out.after hb2); have HB := Lib.hid (HB.out.trans (hb2.mono HB.out.size)); have hzz := HB.out.size; obtain ⟨n0, n1, n2⟩ := F.out _ HB.out; clear hb2; obtain ⟨d0, d1, d2, d3⟩ := P.out.facts))
                refine bodyPost_ret (by simp [results, Tryz.results13, go_sem, d0, d1]; try rfl) rfl ?_
                exact ⟨stagesOut_err Y.out rfl, two_new (st := st) (ao := none) (c := c) hB (HB.out.mono hB) (KeepX.below HB.out) (Nat.le_refl _) _ _⟩
            · have HC1 := Lib.hid hk
              have HQ := Lib.hid (show ∀ r, (if stageB (nth ws 1).text = false then (.error (5, (nth ws 1).at_) : Except Flt (List StageG)) else if calledB st (nth ws 1).text < 0 ∧ (nth ws 1).text ≠ wSCRATCH then .error (6, (nth ws 1).at_) else r) = r from fun r => by rw [hs, hk, if_neg (by simp), if_neg (by omega)])
              have HVO := Lib.hid (show varsOf st (calledB st (nth ws 1).text) = st[k].vars by rw [hk]; exact varsOf_at hkl)
              have HK := Lib.hid hk
              clear hs hk
              by_cases hns : (nth ws 3).text = wSCRATCH
              · have hns' : ((nth ws 3).text == [115, 99, 114, 97, 116, 99, 104]) = true := by rw [hns]; decide
                have Y := Lib.hid (show fromB st ws = .error (6, (nth ws 3).at_) by unfold fromB; rw [HNB.out]; simp only; rw [HQ.out, if_pos ⟨HNE.out, .inl hns⟩])
                clear hns
                go_enter Tryz.func13, Tryz.ntmps13
                go_wp2_with (first
                  | (go_at_call 11; refine (plainR_any _ _ _ _ (by first | exact HG1.out.1 | exact HG2.out.1 | exact HG3.out.1) (by first | (have := HG1.out.2; omega) | (have := HG2.out.2; omega) | (have := HG3.out.2; omega)) (ownsRow_below (by first | exact HR1.out | exact HR2.out | exact HR3.out) HB.out)).mono ?_; rintro e2 w2 ⟨rfl, hb2⟩; have P := Lib.hid (P.out.after hb2); have PT := Lib.hid (PT.out.after hb2); have HB := Lib.hid (HB.out.trans (hb2.mono HB.out.size)); have hzz := HB.out.size; obtain ⟨n0, n1, n2⟩ := F.out _ HB.out; clear hb2; obtain ⟨n3, n4, n5, n6⟩ := F2.out _ HB.out)
                  | (go_at_call 24; refine (stageNameR_any _ _ (by first | (have := HG1.out.2; omega) | (have := HG3.out.2; omega))).mono ?_; rintro e4 w4 ⟨rfl, rfl⟩; first | rw [HS1.out] | rw [HS3.out])
                  | (go_at_call 25; refine (calledR_any st _ _ c scs _ (by omega) (HR.out.below HB.out) HSL.out HN.out).mono ?_; rintro e5 w5 ⟨rfl, rfl⟩; first | rw [HC1.out])
                  | (go_at_call 9; refine (bad_any _ _ _).mono ?_; rintro e8 w8 ⟨rfl, hb2⟩; simp only [faultV]; have P := Lib.hid (P.out.after hb2); have PT := Lib.hid (PT.out.after hb2); have HB := Lib.hid (HB.out.trans (hb2.mono HB.out.size)); have hzz := HB.out.size; obtain ⟨n0, n1, n2⟩ := F.out _ HB.out; clear hb2; obtain ⟨d0, d1, d2, d3⟩ := P.out.facts))
                refine bodyPost_ret (by simp [results, Tryz.results13, go_sem, d0, d1]; try rfl) rfl ?_
                exact ⟨stagesOut_err Y.out rfl, two_new (st := st) (ao := none) (c := c) hB (HB.out.mono hB) (KeepX.below HB.out) (Nat.le_refl _) _ _⟩
              · have hns' : ((nth ws 3).text == [115, 99, 114, 97, 116, 99, 104]) = false := by simpa using (show ¬ (nth ws 3).text = [115, 99, 114, 97, 116, 99, 104] from hns)
                rcases calledB_cases st (nth ws 3).text with hk3 | ⟨k3, hkl3, hk3⟩
                · have HC3 := Lib.hid hk3
                  have HQ2 := Lib.hid (show ∀ r : Except Flt (List StageG), (if (nth ws 3).text ≠ [] ∧ ((nth ws 3).text = wSCRATCH ∨ 0 ≤ calledB st (nth ws 3).text) then .error (6, (nth ws 3).at_) else r) = r from fun r => by rw [if_neg]; rw [hk3]; rintro ⟨_, h | h⟩; exact hns h; omega)
                  clear hns hk3
                  by_cases h5 : st.length = 5
                  · have h5' : ((st.length : Int) == 5) = true := by rw [h5]; rfl
                    have Y := Lib.hid (show fromB st ws = .error (10, (nth ws 0).at_) by unfold fromB; rw [HNB.out]; simp only; rw [HQ.out, HQ2.out, if_pos h5])
                    clear h5
                    go_enter Tryz.func13, Tryz.ntmps13
                    go_wp2_with (first
                      | (go_at_call 11; refine (plainR_any _ _ _ _ (by first | exact HG1.out.1 | exact HG2.out.1 | exact HG3.out.1) (by first | (have := HG1.out.2; omega) | (have := HG2.out.2; omega) | (have := HG3.out.2; omega)) (ownsRow_below (by first | exact HR1.out | exact HR2.out | exact HR3.out) HB.out)).mono ?_; rintro e2 w2 ⟨rfl, hb2⟩; have P := Lib.hid (P.out.after hb2); have PT := Lib.hid (PT.out.after hb2); have HB := Lib.hid (HB.out.trans (hb2.mono HB.out.size)); have hzz := HB.out.size; obtain ⟨n0, n1, n2⟩ := F.out _ HB.out; clear hb2; obtain ⟨n3, n4, n5, n6⟩ := F2.out _ HB.out)
                      | (go_at_call 24; refine (stageNameR_any _ _ (by first | (have := HG1.out.2; omega) | (have := HG3.out.2; omega))).mono ?_; rintro e4 w4 ⟨rfl, rfl⟩; first | rw [HS1.out] | rw [HS3.out])
                      | (go_at_call 25; refine (calledR_any st _ _ c scs _ (by omega) (HR.out.below HB.out) HSL.out HN.out).mono ?_; rintro e5 w5 ⟨rfl, rfl⟩; first | rw [HC1.out] | rw [HC3.out])
                      | (go_at_call 9; refine (bad_any _ _ _).mono ?_; rintro e8 w8 ⟨rfl, hb2⟩; simp only [faultV]; have P := Lib.hid (P.out.after hb2); have PT := Lib.hid (PT.out.after hb2); have HB := Lib.hid (HB.out.trans (hb2.mono HB.out.size)); have hzz := HB.out.size; obtain ⟨n0, n1, n2⟩ := F.out _ HB.out; clear hb2; obtain ⟨d0, d1, d2, d3⟩ := P.out.facts))
                    refine bodyPost_ret (by simp [results, Tryz.results13, go_sem, d0, d1]; try rfl) rfl ?_
                    exact ⟨stagesOut_err Y.out rfl, two_new (st := st) (ao := none) (c := c) hB (HB.out.mono hB) (KeepX.below HB.out) (Nat.le_refl _) _ _⟩
                  · have h5' : ((st.length : Int) == 5) = false := by rw [beq_eq_false_iff_ne]; omega
                    have Y := Lib.hid (show fromB st ws = .ok (st ++ [⟨(nth ws 3).text, (k : Int), [], st[k].vars⟩]) by unfold fromB; rw [HNB.out]; simp only; rw [HQ.out, HQ2.out, if_neg h5, HVO.out, HK.out])
                    obtain ⟨sv, vv, -, -, -, g4, hat⟩ := HSC.out.get k hkl
                    obtain ⟨b2, o2, rfl, hb2', hc2⟩ := HR.out.at (k * 4 + 3) (by rw [HSL.out]; omega)
                    obtain ⟨va, vc, rfl⟩ := ownsRow_form hat.vars
                    have HVV := Lib.hid (ownsRow_base hat.vars (Nat.zero_le _))
                    have hvl : st[k].vars.length ≤ 100 := HV5.out _ (List.getElem_mem hkl)
                    have m4 : w.cell? ⟨b2, o2 + (k * 4 + 3), none⟩ = some (.slice va st[k].vars.length vc) := hc2 _ _ g4
                    clear g4 hat hc2
                    have F4 := Lib.hid (show ∀ wx, Below w.heap.size w wx → wx.cell? ⟨b2, o2 + k * 4 + 3, none⟩ = some (.slice va st[k].vars.length vc) from fun wx hx => by rw [Nat.add_assoc]; exact (hx.cell (p := ⟨b2, o2 + (k * 4 + 3), none⟩) hb2').trans m4)
                    go_enter Tryz.func13, Tryz.ntmps13
                    go_wp2_with (first
                      | (go_at_call 11; refine (plainR_any _ _ _ _ (by first | exact HG1.out.1 | exact HG2.out.1 | exact HG3.out.1) (by first | (have := HG1.out.2; omega) | (have := HG2.out.2; omega) | (have := HG3.out.2; omega)) (ownsRow_below (by first | exact HR1.out | exact HR2.out | exact HR3.out) HB.out)).mono ?_; rintro e2 w2 ⟨rfl, hb2⟩; have P := Lib.hid (P.out.after hb2); have PT := Lib.hid (PT.out.after hb2); have HB := Lib.hid (HB.out.trans (hb2.mono HB.out.size)); have hzz := HB.out.size; obtain ⟨n0, n1, n2⟩ := F.out _ HB.out; clear hb2; obtain ⟨n3, n4, n5, n6⟩ := F2.out _ HB.out)
                      | (go_at_call 24; refine (stageNameR_any _ _ (by first | (have := HG1.out.2; omega) | (have := HG3.out.2; omega))).mono ?_; rintro e4 w4 ⟨rfl, rfl⟩; first | rw [HS1.out] | rw [HS3.out])
                      | (go_at_call 25; refine (calledR_any st _ _ c scs _ (by omega) (HR.out.below HB.out) HSL.out HN.out).mono ?_; rintro e5 w5 ⟨rfl, rfl⟩; first | rw [HC1.out] | rw [HC3.out]; have n9 := F4.out _ HB.out; have lt9 := Nat.lt_of_lt_of_le hb2' HB.out.size))
                    go_region_law (refine step_append_row (by rfl) (.tmp 125) (.tmp 130) 54 (by rfl) w.heap.size tText i1 (.string ByteArray.empty) 1 16 Tryz.underlying54 hi1 hz3 hz4 hz5 (by rfl) (by decide) (.slice none 0 0) 0 [] (by rfl) (World.ownsRow_nil _ _ _ _) (.slice va st[k].vars.length vc) st[k].vars.length 0 (strs st[k].vars) (by rfl) (ownsRow_below HVV.out (HB.out.alloc (by omega) _).drew) (strs_one _) (by unfold maxLen; omega) (by omega) (by simp; omega) ?_; intro va' vc' w9 hown9 hgr9; simp only [List.nil_append, Nat.zero_add] at hown9; have hz9 := hgr9.size; have HB9 := Lib.hid ((HB.out.alloc (by omega) _).drew.grown hgr9 (by simp; omega) (fun z hz => by simp [Value.ownBlock] at hz)); have P9 := Lib.hid ((P.out.alloc _).drew.grown hgr9 (by simp [Value.ownBlock])); have PT9 := Lib.hid ((PT.out.alloc _).drew.grown hgr9 (by simp [Value.ownBlock])); obtain ⟨x1, x2, x3, x4, x5, x6, x7, x8⟩ := Blk4.facts ((Blk4.new _ _ _ _ _ _).drew.grown hgr9 (by simp [Value.ownBlock])); have BT9 := Lib.hid ((BlkT.new _ _ tStage).drew.grown hgr9 (by simp [Value.ownBlock])); have O9 := Lib.hid hown9; clear hown9 hgr9)
                    all_goals
                      have ne9 : w.heap.size ≠ w2.heap.size := by have := P.out.lt; omega
                      have HBX := Lib.hid ((HB9.out.setCell (p := ⟨w2.heap.size, 3, none⟩) HB.out.size (.slice va' st[k].vars.length vc')).alloc (by simp only [World.size_setCell]; exact HB9.out.size) (.cells #[.string (S (nth ws 3).text), .int .i64 (k : Int), .slice none 0 0, .slice va' st[k].vars.length vc'] tStage))
                      have OX := Lib.hid ((ownsRow_keep O9.out (KeepT.setT BT9.out (by decide) 3 (.slice va' st[k].vars.length vc'))).alloc (.cells #[.string (S (nth ws 3).text), .int .i64 (k : Int), .slice none 0 0, .slice va' st[k].vars.length vc'] tStage))
                      have PX := Lib.hid ((P9.out.far (o := 3) (.slice va' st[k].vars.length vc') ne9).alloc (.cells #[.string (S (nth ws 3).text), .int .i64 (k : Int), .slice none 0 0, .slice va' st[k].vars.length vc'] tStage))
                      have PTX := Lib.hid ((PT9.out.far (o := 3) (.slice va' st[k].vars.length vc') ne9).alloc (.cells #[.string (S (nth ws 3).text), .int .i64 (k : Int), .slice none 0 0, .slice va' st[k].vars.length vc'] tStage))
                      have szX := HBX.out.size
                      go_wp2_with (first
                        | (at_builtin; refine wpList_append_own _ rfl _ _ 25 rfl B tStage i0 (.agg #[.string ByteArray.empty, .int .i64 0, .slice none 0 0, .slice none 0 0]) 4 72 Tryz.underlying25 hi0 hz0 hz1 hz2 rfl (by decide) _ _ _ rfl (ownsRow_below HSO.out HBX.out) ⟨_, 0, none⟩ 1 1 [.string (S (nth ws 3).text), .int .i64 (k : Int), .slice none 0 0, .slice va' st[k].vars.length vc'] rfl rfl (cells4_at _ _ _ _ _ _ _ (by simp)) (by simp [Value.oneCell']) (by unfold maxLen; omega) (by omega) (Nat.le_trans hB szX) ?_; intro v' w3 hown3 hgr3 _; obtain ⟨ao', c', rfl⟩ := ownsRow_form hown3; have PP := StagesR.push (x := ⟨(nth ws 3).text, (k : Int), [], st[k].vars⟩) HSO.out HSC.out HBX.out hgr3 ⟨⟨[], World.ownsRow_nil _ _ _ _, rfl⟩, OX.out, by simp [Value.ownBlock], own_lt OX.out⟩ hown3 hB; have HP := Lib.hid PP.1; have HX := Lib.hid PP.2; have P := Lib.hid (PX.out.grown hgr3 (own_new HSO.out)); have PT := Lib.hid (PTX.out.grown hgr3 (own_new HSO.out)); have HB3 := Lib.hid ((HBX.out.mono hB).grown hgr3 (Nat.le_trans hB szX) (own_le HSO.out)); clear hown3 hgr3 PP)
                        | (go_at_call 15; refine (fine_any _).mono ?_; rintro e8 w8 ⟨rfl, hb8⟩; simp only [faultV]; obtain ⟨d0, d1, d2, d3⟩ := (P.out.after hb8).facts; have HB8 := Lib.hid hb8; clear hb8))
                      refine bodyPost_ret (by simp [results, Tryz.results13, go_sem, d0, d1]; try rfl) rfl ?_
                      exact ⟨stagesOut_ok Y.out (by simp) rfl ((HP.out.after HB8.out).two (PT.out.after HB8.out) _ _), two_new (st := st) (ao := none) (c := c) hB (HB3.out.trans (HB8.out.mono (Nat.le_trans hB HB3.out.size))) (HX.out.trans (KeepX.below HB8.out)) (Nat.le_refl _) _ _⟩
                · have HC3 := Lib.hid hk3
                  have Y := Lib.hid (show fromB st ws = .error (6, (nth ws 3).at_) by unfold fromB; rw [HNB.out]; simp only; rw [HQ.out, if_pos ⟨HNE.out, .inr (by omega)⟩])
                  clear hns hk3
                  go_enter Tryz.func13, Tryz.ntmps13
                  go_wp2_with (first
                    | (go_at_call 11; refine (plainR_any _ _ _ _ (by first | exact HG1.out.1 | exact HG2.out.1 | exact HG3.out.1) (by first | (have := HG1.out.2; omega) | (have := HG2.out.2; omega) | (have := HG3.out.2; omega)) (ownsRow_below (by first | exact HR1.out | exact HR2.out | exact HR3.out) HB.out)).mono ?_; rintro e2 w2 ⟨rfl, hb2⟩; have P := Lib.hid (P.out.after hb2); have PT := Lib.hid (PT.out.after hb2); have HB := Lib.hid (HB.out.trans (hb2.mono HB.out.size)); have hzz := HB.out.size; obtain ⟨n0, n1, n2⟩ := F.out _ HB.out; clear hb2; obtain ⟨n3, n4, n5, n6⟩ := F2.out _ HB.out)
                    | (go_at_call 24; refine (stageNameR_any _ _ (by first | (have := HG1.out.2; omega) | (have := HG3.out.2; omega))).mono ?_; rintro e4 w4 ⟨rfl, rfl⟩; first | rw [HS1.out] | rw [HS3.out])
                    | (go_at_call 25; refine (calledR_any st _ _ c scs _ (by omega) (HR.out.below HB.out) HSL.out HN.out).mono ?_; rintro e5 w5 ⟨rfl, rfl⟩; first | rw [HC1.out] | rw [HC3.out])
                    | (go_at_call 9; refine (bad_any _ _ _).mono ?_; rintro e8 w8 ⟨rfl, hb2⟩; simp only [faultV]; have P := Lib.hid (P.out.after hb2); have PT := Lib.hid (PT.out.after hb2); have HB := Lib.hid (HB.out.trans (hb2.mono HB.out.size)); have hzz := HB.out.size; obtain ⟨n0, n1, n2⟩ := F.out _ HB.out; clear hb2; obtain ⟨d0, d1, d2, d3⟩ := P.out.facts))
                  refine bodyPost_ret (by simp [results, Tryz.results13, go_sem, d0, d1]; try rfl) rfl ?_
                  exact ⟨stagesOut_err Y.out rfl, two_new (st := st) (ao := none) (c := c) hB (HB.out.mono hB) (KeepX.below HB.out) (Nat.le_refl _) _ _⟩
      · have has' : ((nth ws 2).text == [65, 83]) = false := by simpa using (show ¬ (nth ws 2).text = [65, 83] from has)
        have Y := Lib.hid (show fromB st ws = .error (5, (nth ws 2).at_) by unfold fromB nameB; rw [if_pos (.inr hl44), if_pos has])
        have hlen : 4 ≤ ws.length := by omega
        clear has hl3' hl2' hl44
        go_enter Tryz.func13, Tryz.ntmps13
        go_wp2_with (first
          | (go_at_call 11; refine (plainR_any _ _ _ _ (by first | exact HG1.out.1 | exact HG2.out.1) (by first | (have := HG1.out.2; omega) | (have := HG2.out.2; omega)) (ownsRow_below (by first | exact HR1.out | exact HR2.out) HB.out)).mono ?_; rintro e2 w2 ⟨rfl, hb2⟩; have P := Lib.hid (P.out.after hb2); have PT := Lib.hid (PT.out.after hb2); have HB := Lib.hid (HB.out.trans (hb2.mono HB.out.size)); have hzz := HB.out.size; obtain ⟨n0, n1, n2⟩ := F.out _ HB.out; clear hb2; obtain ⟨n3, n4, n5, n6⟩ := F2.out _ HB.out)
          | (go_at_call 9; refine (bad_any _ _ _).mono ?_; rintro e8 w8 ⟨rfl, hb2⟩; simp only [faultV]; have P := Lib.hid (P.out.after hb2); have PT := Lib.hid (PT.out.after hb2); have HB := Lib.hid (HB.out.trans (hb2.mono HB.out.size)); have hzz := HB.out.size; obtain ⟨n0, n1, n2⟩ := F.out _ HB.out; clear hb2; obtain ⟨d0, d1, d2, d3⟩ := P.out.facts))
        refine bodyPost_ret (by simp [results, Tryz.results13, go_sem, d0, d1]; try rfl) rfl ?_
        exact ⟨stagesOut_err Y.out rfl, two_new (st := st) (ao := none) (c := c) hB (HB.out.mono hB) (KeepX.below HB.out) (Nat.le_refl _) _ _⟩

theorem fromR_any (st : List StageG) (ws : List WordG) (B : Nat) (ao : Option Addr) (b o c d : Nat) (w : World) (hst : StagesR B w st ao c) (hB : B ≤ w.heap.size) (hs5 : st.length ≤ 5) (hv5 : ∀ x ∈ st, x.vars.length ≤ 100) (hws : WordsR w (some ⟨b, o, none⟩) ws) (hg : GoodW ws) (hl2 : 2 ≤ ws.length) (hl4 : ws.length ≤ 4) (hd : ws.length ≤ d) (hd2 : d ≤ maxLen) :
    Calls Tryz.prog 13 #[.slice ao st.length c, .slice (some ⟨b, o, none⟩) ws.length d] w fun e w' => stagesOut B w' e (fromB st ws) ∧ Below B w w' ∧ KeepX w w' := by
  by_cases hl2' : ws.length = 2
  · exact fromR_a st ws B ao b o c d w hst hB hs5 hv5 hws hg hl2 hl2' hl4 hd hd2
  · exact fromR_b st ws B ao b o c d w hst hB hs5 hv5 hws hg hl2 hl2' hl4 hd hd2
end Go.Proofs.YtflggoddfjmljaaGreatDoor
namespace Go.Proofs.YtflggoddfjmljaaGreatDoor
open Go.RowKit

theorem rowFacts {B c gb m : Nat} {w : World} {cs0 : List Value} {a b sv vv : Value} (h : w.ownsRow B tStage 4 (.slice (some ⟨gb, 0, none⟩) (m + 1) c) (m + 1) (cs0 ++ [a, b, sv, vv])) (hl : cs0.length = m * 4) :
    gb < w.heap.size ∧ w.cell? ⟨gb, m * 4 + 2, none⟩ = some sv ∧ w.cell? ⟨gb, m * 4 + 3, none⟩ = some vv ∧ w.frozen? ⟨gb, m * 4 + 2, none⟩ = false ∧ w.frozen? ⟨gb, m * 4 + 3, none⟩ = false := by
  have hc := h.cells (g := gb) rfl
  have ha : ∀ j, (⟨gb, 0, none⟩ : Addr).add j = ⟨gb, j, none⟩ := fun j => by unfold Addr.add; split <;> simp_all
  have h2 := hc (m * 4 + 2) sv (by rw [List.getElem?_append_right (by omega), hl]; simp)
  have h3 := hc (m * 4 + 3) vv (by rw [List.getElem?_append_right (by omega), hl]; simp)
  rw [ha] at h2 h3
  rcases h.2 with ⟨e, _⟩ | ⟨gb', cap, cur, e, hg, hh, r⟩
  · simp at e
  · simp only [Value.slice.injEq, Option.some.injEq, Addr.mk.injEq] at e
    obtain ⟨⟨rfl, -, -⟩, -, -⟩ := e
    exact ⟨(Array.getElem?_eq_some_iff.1 hh).1, h2, h3, frozen_of_row w gb _ _ _ hh, frozen_of_row w gb _ _ _ hh⟩

/-- the fault's and the step's variables, the step's words -/
structure SInv (g7 g9 : Nat) (op : List UInt8) (A : Option Addr) (l : List WordG) (c : Nat) (k : Int) (p : Nat) (w : World) : Prop where
  b7 : Blk2 w g7 (.int .i64 0) (.int .i64 0)
  t7 : BlkT w g7 tFault
  b9 : Blk4 w g9 (.string (S op)) (.slice A l.length c) (.int .i64 k) (.int .i64 p)
  t9 : BlkT w g9 tStep
  hw : WordsR w A l
  ne : g7 < g9
theorem SInv.after {g7 g9 : Nat} {op : List UInt8} {A : Option Addr} {l : List WordG} {c : Nat} {k : Int} {p : Nat} {w w' : World} (h : SInv g7 g9 op A l c k p w) (hb : Below w.heap.size w w') : SInv g7 g9 op A l c k p w' :=
  ⟨h.b7.after hb, h.t7.after hb, h.b9.after hb, h.t9.after hb, h.hw.keep (KeepT.below hb) (KeepT.below hb), h.ne⟩
theorem SInv.alloc {g7 g9 : Nat} {op : List UInt8} {A : Option Addr} {l : List WordG} {c : Nat} {k : Int} {p : Nat} {w : World} (h : SInv g7 g9 op A l c k p w) (o : Obj) : SInv g7 g9 op A l c k p (w.alloc o) := h.after ((Below.refl _ _).alloc (Nat.le_refl _) o)
theorem SInv.drew {g7 g9 : Nat} {op : List UInt8} {A : Option Addr} {l : List WordG} {c : Nat} {k : Int} {p : Nat} {w : World} (h : SInv g7 g9 op A l c k p w) : SInv g7 g9 op A l c k p w.drew := h.after (Below.refl _ _).drew
/-- a COPY's stage and words are stored -/
theorem SInv.took {g7 g9 : Nat} {op : List UInt8} {A A' : Option Addr} {l l' : List WordG} {c c' : Nat} {k : Int} {p : Nat} {w : World} (h : SInv g7 g9 op A l c k p w) (k' : Int) (hw : WordsR w A' l') :
    SInv g7 g9 op A' l' c' k' p ((w.setCell ⟨g9, 2, none⟩ (.int .i64 k')).setCell ⟨g9, 1, none⟩ (.slice A' l'.length c')) := by
  have hne := h.ne
  have t1 := h.t9.set 2 (.int .i64 k')
  exact ⟨(h.b7.far _ (by omega)).far _ (by omega), (h.t7.far _ (by omega)).far _ (by omega), (h.b9.set2 _).set1 _, t1.set 1 _, (hw.keep (KeepT.setT h.t9 (by decide) _ _) (KeepT.setT h.t9 (by decide) _ _)).keep (KeepT.setT t1 (by decide) _ _) (KeepT.setT t1 (by decide) _ _), h.ne⟩
/-- a row of other things grows, a stage's cell is written -/
theorem SInv.pushed {g7 g9 : Nat} {op : List UInt8} {A : Option Addr} {l : List WordG} {c : Nat} {k : Int} {p : Nat} {w w2 : World} {gb j base size n : Nat} {e : TypeId} {v u : Value} {xs : List Value} (h : SInv g7 g9 op A l c k p w)
    (hg : w.grownBy w2 v.ownBlock) (hown : w.ownsRow base e size v n xs) (he1 : e ≠ tWord) (he2 : e ≠ tAtom) (hlow : ∀ k, v.ownBlock = some k → k < g7) (hgb : gb < g7) (hbT : BlkT w2 gb tStage) :
    SInv g7 g9 op A l c k p (w2.setCell ⟨gb, j, none⟩ u) := by
  have hne := h.ne
  have n7 : some g7 ≠ v.ownBlock := fun e => by have := hlow _ e.symm; omega
  have n9 : some g9 ≠ v.ownBlock := fun e => by have := hlow _ e.symm; omega
  exact ⟨(h.b7.grown hg n7).far _ (by omega), (h.t7.grown hg n7).far _ (by omega), (h.b9.grown hg n9).far _ (by omega), (h.t9.grown hg n9).far _ (by omega), (h.hw.keep (KeepT.grown hg hown he1) (KeepT.grown hg hown he2)).keep (KeepT.setT hbT (by decide) _ _) (KeepT.setT hbT (by decide) _ _), h.ne⟩
theorem SInv.grown {g7 g9 : Nat} {op : List UInt8} {A : Option Addr} {l : List WordG} {c : Nat} {k : Int} {p : Nat} {w w2 : World} {v : Value} (h : SInv g7 g9 op A l c k p w)
    (hg : w.grownBy w2 v.ownBlock) (hlow : ∀ k, v.ownBlock = some k → k < g7) :
    Blk2 w2 g7 (.int .i64 0) (.int .i64 0) ∧ Blk4 w2 g9 (.string (S op)) (.slice A l.length c) (.int .i64 k) (.int .i64 p) := by
  have hne := h.ne
  exact ⟨h.b7.grown hg (fun e => by have := hlow _ e.symm; omega), h.b9.grown hg (fun e => by have := hlow _ e.symm; omega)⟩
theorem SInv.new (w : World) (op : List UInt8) (A : Option Addr) (l : List WordG) (c : Nat) (k : Int) (p : Nat) (hw : WordsR w A l) :
    SInv w.heap.size (w.heap.size + 1) op A l c k p ((w.alloc (.cells #[.int .i64 0, .int .i64 0] tFault)).alloc (.cells #[.string (S op), .slice A l.length c, .int .i64 k, .int .i64 p] tStep)) := by
  have h1 : (w.alloc (.cells #[.int .i64 0, .int .i64 0] tFault)).heap.size = w.heap.size + 1 := by simp
  refine ⟨(Blk2.new w _ _ _).alloc _, (BlkT.new w _ _).alloc _, ?_, ?_, ?_, by omega⟩
  · have := Blk4.new (w.alloc (.cells #[.int .i64 0, .int .i64 0] tFault)) (.string (S op)) (.slice A l.length c) (.int .i64 k) (.int .i64 p) tStep
    rwa [h1] at this
  · have := BlkT.new (w.alloc (.cells #[.int .i64 0, .int .i64 0] tFault)) #[.string (S op), .slice A l.length c, .int .i64 k, .int .i64 p] tStep
    rwa [h1] at this
  · have hb : Below w.heap.size w ((w.alloc (.cells #[.int .i64 0, .int .i64 0] tFault)).alloc (.cells #[.string (S op), .slice A l.length c, .int .i64 k, .int .i64 p] tStep)) := ((Below.refl _ _).alloc (Nat.le_refl _) _).alloc (by simp) _
    exact hw.keep (KeepT.below hb) (KeepT.below hb)
/-- variables that are not set, of words that are read -/
theorem unsetR_w (l : List WordG) (vars : List (List UInt8)) (A Bv : Option Addr) (c d : Nat) (w : World) (hl : l.length ≤ 1000) (hv : vars.length ≤ 1000) (hg : GoodW l) (hw : WordsR w A l) (hrv : Rd w Bv (strs vars)) :
    Calls Tryz.prog 29 #[.slice A l.length c, .slice Bv vars.length d] w fun e w' => e = .returned (.int .i64 (unsetV vars l)) ∧ Below w.heap.size w w' := by
  obtain ⟨cs, h1, h2⟩ := hw
  exact unsetR_any l vars A Bv c d cs w (by omega) (by omega) (fun x hx => ⟨(hg x hx).1, by have := (hg x hx).2; omega⟩) h1.rd h2 hrv
theorem unsetR_n (l : List WordG) (n : Nat) (hn : l.length = n) (vars : List (List UInt8)) (A Bv : Option Addr) (c d : Nat) (w : World) (hl : l.length ≤ 1000) (hv : vars.length ≤ 1000) (hg : GoodW l) (hw : WordsR w A l) (hrv : Rd w Bv (strs vars)) :
    Calls Tryz.prog 29 #[.slice A n c, .slice Bv vars.length d] w fun e w' => e = .returned (.int .i64 (unsetV vars l)) ∧ Below w.heap.size w w' := by
  subst hn; exact unsetR_w l vars A Bv c d w hl hv hg hw hrv
theorem SInv.b9n {g7 g9 : Nat} {op : List UInt8} {A : Option Addr} {l : List WordG} {c : Nat} {k : Int} {p : Nat} {w : World} (h : SInv g7 g9 op A l c k p w) {n : Nat} (hn : l.length = n) : Blk4 w g9 (.string (S op)) (.slice A n c) (.int .i64 k) (.int .i64 p) := by
  subst hn; exact h.b9
theorem LastR.varsRd {B H : Nat} {w : World} {init : List StageG} {y : StageG} {gb c vc : Nat} {va : Option Addr} {cs0 : List Value} {sv : Value} {scs : List Value} (h : LastR B H w init y gb c cs0 sv (.slice va y.vars.length vc) scs) : Rd w va (strs y.vars) := (RdT.of_own h.vars).rd
/-- a variable's push, all that follows from it -/
theorem pushVarAll {B H : Nat} {w w2 : World} {init : List StageG} {y : StageG} {gb c : Nat} {cs0 : List Value} {sv vv : Value} {scs : List Value} {x : List UInt8} {g7 g9 : Nat} {op : List UInt8} {A : Option Addr} {l : List WordG} {cl : Nat} {k : Int} {p : Nat} {vv' : Value} (h : LastR B H w init y gb c cs0 sv vv scs) (s : SInv g7 g9 op A l cl k p w)
    (hg : w.grownBy w2 vv.ownBlock) (hown : w2.ownsRow H tText 1 vv' (y.vars.length + 1) (strs y.vars ++ [.string (S x)])) (hlow : ∀ k, vv.ownBlock = some k → k < g7) (hgb : gb < g7) :
    (LastR B H (w2.setCell ⟨gb, init.length * 4 + 3, none⟩ vv') init ⟨y.name, y.base, y.steps, y.vars ++ [x]⟩ gb c cs0 sv vv' scs ∧ SInv g7 g9 op A l cl k p (w2.setCell ⟨gb, init.length * 4 + 3, none⟩ vv') ∧ KeepX w (w2.setCell ⟨gb, init.length * 4 + 3, none⟩ vv') ∧ Below B w (w2.setCell ⟨gb, init.length * 4 + 3, none⟩ vv')) ∧
    gb < w2.heap.size ∧ w2.cell? ⟨gb, init.length * 4 + 2, none⟩ = some sv ∧ w2.cell? ⟨gb, init.length * 4 + 3, none⟩ = some vv ∧ w2.frozen? ⟨gb, init.length * 4 + 2, none⟩ = false ∧ w2.frozen? ⟨gb, init.length * 4 + 3, none⟩ = false := by
  obtain ⟨h1, h2, h3⟩ := h.pushVar hg hown
  have hk : KeepT tStage w w2 := KeepT.grown hg h.vars (by decide)
  obtain ⟨⟨cs, hbt⟩, _⟩ := h.blkT
  exact ⟨⟨h1, s.pushed hg h.vars (by decide) (by decide) hlow hgb ⟨cs, hk gb cs hbt⟩, h2, h3⟩, rowFacts (ownsRow_keep h.own hk) h.ini.len⟩
theorem pushStepAll {B H : Nat} {w w2 : World} {init : List StageG} {y : StageG} {gb c : Nat} {cs0 : List Value} {sv vv : Value} {scs : List Value} {g7 g9 : Nat} {op : List UInt8} {A : Option Addr} {l : List WordG} {cl : Nat} {k : Int} {p : Nat} {sv' : Value} (h : LastR B H w init y gb c cs0 sv vv scs) (s : SInv g7 g9 op A l cl k p w) (n : Nat) (hn : l.length = n)
    (hg : w.grownBy w2 sv.ownBlock) (hown : w2.ownsRow H tStep 4 sv' (y.steps.length + 1) (scs ++ [.string (S op), .slice A n cl, .int .i64 k, .int .i64 p])) (hlow : ∀ k, sv.ownBlock = some k → k < g7) (hgb : gb < g7) :
    (∃ scs', LastR B H (w2.setCell ⟨gb, init.length * 4 + 2, none⟩ sv') init ⟨y.name, y.base, y.steps ++ [⟨op, l, k, p⟩], y.vars⟩ gb c cs0 sv' vv scs' ∧ SInv g7 g9 op A l cl k p (w2.setCell ⟨gb, init.length * 4 + 2, none⟩ sv') ∧ KeepX w (w2.setCell ⟨gb, init.length * 4 + 2, none⟩ sv') ∧ Below B w (w2.setCell ⟨gb, init.length * 4 + 2, none⟩ sv')) ∧
    gb < w2.heap.size ∧ w2.cell? ⟨gb, init.length * 4 + 2, none⟩ = some sv ∧ w2.cell? ⟨gb, init.length * 4 + 3, none⟩ = some vv ∧ w2.frozen? ⟨gb, init.length * 4 + 2, none⟩ = false ∧ w2.frozen? ⟨gb, init.length * 4 + 3, none⟩ = false := by
  subst hn
  obtain ⟨scs', h1, h2, h3⟩ := h.pushStep (x := ⟨op, l, k, p⟩) s.hw hg hown
  have hk : KeepT tStage w w2 := KeepT.grown hg h.steps (by decide)
  obtain ⟨⟨cs, hbt⟩, _⟩ := h.blkT
  exact ⟨⟨scs', h1, s.pushed hg h.steps (by decide) (by decide) hlow hgb ⟨cs, hk gb cs hbt⟩, h2, h3⟩, rowFacts (ownsRow_keep h.own hk) h.ini.len⟩
theorem LastR.alloc {B H : Nat} {w : World} {init : List StageG} {y : StageG} {gb c : Nat} {cs0 : List Value} {sv vv : Value} {scs : List Value} (h : LastR B H w init y gb c cs0 sv vv scs) (o : Obj) : LastR B H (w.alloc o) init y gb c cs0 sv vv scs := h.after ((Below.refl _ _).alloc (Nat.le_refl _) o)
theorem LastR.drew {B H : Nat} {w : World} {init : List StageG} {y : StageG} {gb c : Nat} {cs0 : List Value} {sv vv : Value} {scs : List Value} (h : LastR B H w init y gb c cs0 sv vv scs) : LastR B H w.drew init y gb c cs0 sv vv scs := h.after (Below.refl _ _).drew
theorem GoodW.drop {ws : List WordG} (h : GoodW ws) (k : Nat) : GoodW (ws.drop k) := fun x hx => h x (List.mem_of_mem_drop hx)
theorem unsetV_none {vars : List (List UInt8)} {l : List WordG} (h : unsetB vars l = none) : unsetV vars l = -1 := by simp [unsetV, h]
theorem unsetV_some {vars : List (List UInt8)} {l : List WordG} {p : Nat} (h : unsetB vars l = some p) : unsetV vars l = p := by simp [unsetV, h]
theorem takenB_words {st : List StageG} {ws l : List WordG} {k : Int} (h : takenB st ws = .ok (k, l)) : l = ws.drop 1 ∨ l = ws.drop 2 := by
  unfold takenB at h
  split at h
  · cases h
  · split at h
    · cases h; exact .inl rfl
    · split at h
      · cases h
      · split at h
        · cases h
        · cases h; exact .inr rfl
def EqN (a b : Nat) : Prop := a = b
theorem EqN.out {a b : Nat} (h : EqN a b) : a = b := h
theorem looksB_env {st : List StageG} {op : List UInt8} {ws : List WordG} (h : op = wENV) : looksB st op ws = if (nth ws 1).flat = false ∨ isVarB (nth ws 1).text = false then .error (5, (nth ws 1).at_) else .ok (-1, ws.drop 1) := by
  subst h; unfold looksB; rw [if_neg (by decide), if_neg (by decide), if_pos rfl]
theorem looksB_mkdir {st : List StageG} {op : List UInt8} {ws : List WordG} (h : op = wMKDIR) : looksB st op ws = if ws.length = 3 ∧ ((nth ws 2).flat = false ∨ modeB (nth ws 2).text = false) then .error (5, (nth ws 2).at_) else .ok (-1, ws.drop 1) := by
  subst h; unfold looksB; rw [if_neg (by decide), if_pos rfl]
theorem looksB_copy {st : List StageG} {op : List UInt8} {ws : List WordG} (h : op = wCOPY) : looksB st op ws = takenB st ws := by
  subst h; unfold looksB; rw [if_pos rfl]
theorem takenB_err {st : List StageG} {ws : List WordG} {f p : Nat} (h : takenB st ws = .error (f, p)) : f = 5 ∨ f = 6 := by
  unfold takenB at h
  split at h
  · cases h; exact .inl rfl
  · split at h
    · cases h
    · split at h
      · cases h; exact .inl rfl
      · split at h
        · cases h; exact .inr rfl
        · cases h
theorem takenR_n (st : List StageG) (n : Nat) (hn : st.length = n) (ws : List WordG) (B : Nat) (ao : Option Addr) (b o c d : Nat) (w : World) (hst : StagesR B w st ao c) (hs5 : st.length ≤ 5) (hws : WordsR w (some ⟨b, o, none⟩) ws) (hg : GoodW ws) (hl2 : 3 ≤ ws.length) (hl4 : ws.length ≤ 4) (hd : ws.length ≤ d) (hd2 : d ≤ maxLen) :
    Calls Tryz.prog 26 #[.slice ao n c, .slice (some ⟨b, o, none⟩) ws.length d] w fun e w' => takenOut w' e (takenB st ws) ∧ Below w.heap.size w w' := by
  subst hn; exact takenR_any st ws B ao b o c d w hst hs5 hws hg hl2 hl4 hd hd2
end Go.Proofs.YtflggoddfjmljaaGreatDoor
