/-
  The document's answer: a FROM with a name: the walk.
  The step under way in memory; looks on the last stage's row.
  The document's answer: does a stage want another one.
  The document's answer: the stages that are needed: the walk.
  Plain words: the known text of Plans, by the words. No program in sight.
-/
import Derived.Test.YtflggoddfjmljaaDoorY05
set_option linter.unusedVariables false
set_option linter.unusedSimpArgs false
namespace Go.Proofs.YtflggoddfjmljaaDoor
open Go.RowKit

set_option maxRecDepth 100000 in
set_option maxHeartbeats 6000000 in
theorem fromR_b (st : List StageG) (ws : List WordG) (B : Nat) (ao : Option Addr) (b o c d : Nat) (w : World) (hst : StagesR B w st ao c) (hB : B ≤ w.heap.size) (hs5 : st.length ≤ 5) (hv5 : ∀ x ∈ st, x.vars.length ≤ 100) (hws : WordsR w (some ⟨b, o, none⟩) ws) (hg : GoodW ws) (hl2 : 2 ≤ ws.length) (hl2' : ¬ ws.length = 2) (hl4 : ws.length ≤ 4) (hd : ws.length ≤ d) (hd2 : d ≤ maxLen) :
    Calls Tryd.prog 13 #[.slice ao st.length c, .slice (some ⟨b, o, none⟩) ws.length d] w fun e w' => stagesOut B w' e (fromB st ws) ∧ Below B w w' ∧ KeepX w w' := by
  unfold maxLen at hd2
  obtain ⟨i0, hi0, hz0, hz1, hz2⟩ := info_parts (show (Tryd.prog.info? 58).map (fun i => (i.zero, i.size, i.bytes)) = some (some (.agg #[.string ByteArray.empty, .int .i64 0, .slice none 0 0, .slice none 0 0]), 4, 72) by kernel_rfl)
  obtain ⟨i1, hi1, hz3, hz4, hz5⟩ := info_parts (show (Tryd.prog.info? 9).map (fun i => (i.zero, i.size, i.bytes)) = some (some (.string ByteArray.empty), 1, 16) by kernel_rfl)
  obtain ⟨scs, hso, hsc⟩ := hst.all
  have hrs := (RdT.of_own hso).rd
  have hnm : ∀ k (h : k < st.length), scs[k * 4]? = some (.string (S st[k].name)) := fun k h => by
    obtain ⟨_, _, h1, _⟩ := hsc.get k h; exact h1
  have hsl := hsc.len
  obtain ⟨hb, a0, c0, m0, m0', r0⟩ := hws.at 0 (by omega)
  obtain ⟨-, a1, c1, m1, m1', r1⟩ := hws.at 1 (by omega)
  have hg1 := hg.nth 1 (by omega)
  have HW := Lib.hid hws
  have HR := Lib.hid hrs
  have HN := Lib.hid hnm
  have HSL := Lib.hid hsl
  have HR1 := Lib.hid r1
  have HG1 := Lib.hid hg1
  have HG := Lib.hid hg
  have HSO := Lib.hid hso
  have HSC := Lib.hid hsc
  have HV5 := Lib.hid hv5
  have htl1 := (nth ws 1).text_len
  simp only [Nat.zero_mul, Nat.add_zero, Nat.one_mul] at m0 m0' m1 m1'
  have F := Lib.hid (show ∀ wx, Below w.heap.size w wx → wx.cell? ⟨b, o + 1, none⟩ = some (.int .i64 (nth ws 0).at_) ∧ wx.cell? ⟨b, o + 2, none⟩ = some (.slice a1 (nth ws 1).l.length c1) ∧ wx.cell? ⟨b, o + 2 + 1, none⟩ = some (.int .i64 (nth ws 1).at_) from fun wx hx => ⟨(hx.cell (p := ⟨b, o + 1, none⟩) hb).trans m0', (hx.cell (p := ⟨b, o + 2, none⟩) hb).trans m1, (hx.cell (p := ⟨b, o + 2 + 1, none⟩) hb).trans m1'⟩)
  clear hst hso hsc hrs hnm hsl hws hg hg1 r0 r1 hv5
  have P := Lib.hid (Blk2.new w (.int .i64 0) (.int .i64 0) tFault)
  have PT := Lib.hid (BlkT.new w #[.int .i64 0, .int .i64 0] tFault)
  have HB := Lib.hid (show Below w.heap.size w (w.alloc (.cells #[.int .i64 0, .int .i64 0] tFault)) from (Below.refl _ _).alloc (Nat.le_refl _) _)
  · obtain ⟨-, a2, c2, m2, m2', r2⟩ := HW.out.at 2 (by omega)
    have HR2 := Lib.hid r2
    have HG2 := Lib.hid (HG.out.nth 2 (by omega))
    simp only [show 2 * 2 = 4 from rfl] at m2 m2'
    clear r2
    by_cases hl3' : ws.length = 3
    · have F2 := Lib.hid (show ∀ wx, Below w.heap.size w wx → wx.cell? ⟨b, o + 4, none⟩ = some (.slice a2 (nth ws 2).l.length c2) ∧ wx.cell? ⟨b, o + 4 + 1, none⟩ = some (.int .i64 (nth ws 2).at_) ∧ True ∧ True from fun wx hx => ⟨(hx.cell (p := ⟨b, o + 4, none⟩) hb).trans m2, (hx.cell (p := ⟨b, o + 4 + 1, none⟩) hb).trans m2', trivial, trivial⟩)
      have hl3 : ((ws.length : Int) == 3) = true := by rw [hl3']; rfl
      by_cases has : (nth ws 2).text = wAS
      · have has' : ((nth ws 2).text == [65, 83]) = true := by rw [has]; decide
        have Y := Lib.hid (show fromB st ws = .error (5, (nth ws 0).at_) by unfold fromB nameB; rw [if_pos (.inl hl3'), if_neg (by simpa using has), if_pos hl3'])
        have hlen : 3 ≤ ws.length := by omega
        clear has hl3' hl2'
        go_enter Tryd.func13, Tryd.ntmps13
        go_wp2_with (first
          | (go_at_call 11; refine (plainR_any _ _ _ _ (by first | exact HG1.out.1 | exact HG2.out.1) (by first | (have := HG1.out.2; omega) | (have := HG2.out.2; omega)) (ownsRow_below (by first | exact HR1.out | exact HR2.out) HB.out)).mono ?_; rintro e2 w2 ⟨rfl, hb2⟩; have P := Lib.hid (P.out.after hb2); have PT := Lib.hid (PT.out.after hb2); have HB := Lib.hid (HB.out.trans (hb2.mono HB.out.size)); have hzz := HB.out.size; obtain ⟨n0, n1, n2⟩ := F.out _ HB.out; clear hb2; obtain ⟨n3, n4, n5, n6⟩ := F2.out _ HB.out)
          | (go_at_call 9; refine (bad_any _ _ _).mono ?_; rintro e8 w8 ⟨rfl, hb2⟩; simp only [faultV]; have P := Lib.hid (P.out.after hb2); have PT := Lib.hid (PT.out.after hb2); have HB := Lib.hid (HB.out.trans (hb2.mono HB.out.size)); have hzz := HB.out.size; obtain ⟨n0, n1, n2⟩ := F.out _ HB.out; clear hb2; obtain ⟨d0, d1, d2, d3⟩ := P.out.facts))
        refine bodyPost_ret (by simp [results, Tryd.results13, go_sem, d0, d1]; try rfl) rfl ?_
        exact ⟨stagesOut_err Y.out rfl, two_new (st := st) (ao := none) (c := c) hB (HB.out.mono hB) (KeepX.below HB.out) (Nat.le_refl _) _ _⟩
      · have has' : ((nth ws 2).text == [65, 83]) = false := by simpa using (show ¬ (nth ws 2).text = [65, 83] from has)
        have Y := Lib.hid (show fromB st ws = .error (5, (nth ws 2).at_) by unfold fromB nameB; rw [if_pos (.inl hl3'), if_pos has])
        have hlen : 3 ≤ ws.length := by omega
        clear has hl3' hl2'
        go_enter Tryd.func13, Tryd.ntmps13
        go_wp2_with (first
          | (go_at_call 11; refine (plainR_any _ _ _ _ (by first | exact HG1.out.1 | exact HG2.out.1) (by first | (have := HG1.out.2; omega) | (have := HG2.out.2; omega)) (ownsRow_below (by first | exact HR1.out | exact HR2.out) HB.out)).mono ?_; rintro e2 w2 ⟨rfl, hb2⟩; have P := Lib.hid (P.out.after hb2); have PT := Lib.hid (PT.out.after hb2); have HB := Lib.hid (HB.out.trans (hb2.mono HB.out.size)); have hzz := HB.out.size; obtain ⟨n0, n1, n2⟩ := F.out _ HB.out; clear hb2; obtain ⟨n3, n4, n5, n6⟩ := F2.out _ HB.out)
          | (go_at_call 9; refine (bad_any _ _ _).mono ?_; rintro e8 w8 ⟨rfl, hb2⟩; simp only [faultV]; have P := Lib.hid (P.out.after hb2); have PT := Lib.hid (PT.out.after hb2); have HB := Lib.hid (HB.out.trans (hb2.mono HB.out.size)); have hzz := HB.out.size; obtain ⟨n0, n1, n2⟩ := F.out _ HB.out; clear hb2; obtain ⟨d0, d1, d2, d3⟩ := P.out.facts))
        refine bodyPost_ret (by simp [results, Tryd.results13, go_sem, d0, d1]; try rfl) rfl ?_
        exact ⟨stagesOut_err Y.out rfl, two_new (st := st) (ao := none) (c := c) hB (HB.out.mono hB) (KeepX.below HB.out) (Nat.le_refl _) _ _⟩
    · have hl44 : ws.length = 4 := by omega
      obtain ⟨-, a3, c3, m3, m3', r3⟩ := HW.out.at 3 (by omega)
      have HR3 := Lib.hid r3
      have HG3 := Lib.hid (HG.out.nth 3 (by omega))
      simp only [show 3 * 2 = 6 from rfl] at m3 m3'
      clear r3
      have htl3 := (nth ws 3).text_len
      have F2 := Lib.hid (show ∀ wx, Below w.heap.size w wx → wx.cell? ⟨b, o + 4, none⟩ = some (.slice a2 (nth ws 2).l.length c2) ∧ wx.cell? ⟨b, o + 4 + 1, none⟩ = some (.int .i64 (nth ws 2).at_) ∧ wx.cell? ⟨b, o + 6, none⟩ = some (.slice a3 (nth ws 3).l.length c3) ∧ wx.cell? ⟨b, o + 6 + 1, none⟩ = some (.int .i64 (nth ws 3).at_) from fun wx hx => ⟨(hx.cell (p := ⟨b, o + 4, none⟩) hb).trans m2, (hx.cell (p := ⟨b, o + 4 + 1, none⟩) hb).trans m2', (hx.cell (p := ⟨b, o + 6, none⟩) hb).trans m3, (hx.cell (p := ⟨b, o + 6 + 1, none⟩) hb).trans m3'⟩)
      have hl3 : ((ws.length : Int) == 3) = false := by rw [hl44]; rfl
      have hl4' : ((ws.length : Int) == 4) = true := by rw [hl44]; rfl
      by_cases has : (nth ws 2).text = wAS
      · have has' : ((nth ws 2).text == [65, 83]) = true := by rw [has]; decide
        cases hs3 : stageB (nth ws 3).text
        · have HS3 := Lib.hid hs3
          have Y := Lib.hid (show fromB st ws = .error (5, (nth ws 3).at_) by unfold fromB nameB; rw [if_pos (.inr hl44), if_neg (by simpa using has), if_neg hl3', if_pos hs3])
          have hlen : 4 ≤ ws.length := by omega
          clear has hs3 hl3' hl2' hl44
          go_enter Tryd.func13, Tryd.ntmps13
          go_wp2_with (first
            | (go_at_call 11; refine (plainR_any _ _ _ _ (by first | exact HG1.out.1 | exact HG2.out.1 | exact HG3.out.1) (by first | (have := HG1.out.2; omega) | (have := HG2.out.2; omega) | (have := HG3.out.2; omega)) (ownsRow_below (by first | exact HR1.out | exact HR2.out | exact HR3.out) HB.out)).mono ?_; rintro e2 w2 ⟨rfl, hb2⟩; have P := Lib.hid (P.out.after hb2); have PT := Lib.hid (PT.out.after hb2); have HB := Lib.hid (HB.out.trans (hb2.mono HB.out.size)); have hzz := HB.out.size; obtain ⟨n0, n1, n2⟩ := F.out _ HB.out; clear hb2; obtain ⟨n3, n4, n5, n6⟩ := F2.out _ HB.out)
            | (go_at_call 23; refine (stageNameR_any _ _ (by first | (have := HG3.out.2; omega))).mono ?_; rintro e4 w4 ⟨rfl, rfl⟩; first | rw [HS3.out])
            | (go_at_call 9; refine (bad_any _ _ _).mono ?_; rintro e8 w8 ⟨rfl, hb2⟩; simp only [faultV]; have P := Lib.hid (P.out.after hb2); have PT := Lib.hid (PT.out.after hb2); have HB := Lib.hid (HB.out.trans (hb2.mono HB.out.size)); have hzz := HB.out.size; obtain ⟨n0, n1, n2⟩ := F.out _ HB.out; clear hb2; obtain ⟨d0, d1, d2, d3⟩ := P.out.facts))
          refine bodyPost_ret (by simp [results, Tryd.results13, go_sem, d0, d1]; try rfl) rfl ?_
          exact ⟨stagesOut_err Y.out rfl, two_new (st := st) (ao := none) (c := c) hB (HB.out.mono hB) (KeepX.below HB.out) (Nat.le_refl _) _ _⟩
        · have HS3 := Lib.hid hs3
          have HNB := Lib.hid (show nameB ws = .ok (nth ws 3).text by unfold nameB; rw [if_pos (.inr hl44), if_neg (by simpa using has), if_neg hl3', if_neg (by simp [hs3])])
          have HNE := Lib.hid (show (nth ws 3).text ≠ [] by intro e; rw [e] at hs3; cases hs3)
          have hne : ((nth ws 3).text == []) = false := by simpa using HNE.out
          have hne' : ((nth ws 3).text != []) = true := by simpa using HNE.out
          have hne2 : (nth ws 3).text.isEmpty = false := by simpa using HNE.out
          have hlen : 4 ≤ ws.length := by omega
          clear has hs3 hl3' hl2' hl44
          cases hs : stageB (nth ws 1).text
          · have Y := Lib.hid (show fromB st ws = .error (5, (nth ws 1).at_) by unfold fromB; rw [HNB.out]; simp [hs])
            obtain ⟨k, hk⟩ : ∃ k, calledB st (nth ws 1).text = k := ⟨_, rfl⟩
            have HS1 := Lib.hid hs
            have HC1 := Lib.hid hk
            clear hs hk
            go_enter Tryd.func13, Tryd.ntmps13
            go_wp2_with (first
              | (go_at_call 11; refine (plainR_any _ _ _ _ (by first | exact HG1.out.1 | exact HG2.out.1 | exact HG3.out.1) (by first | (have := HG1.out.2; omega) | (have := HG2.out.2; omega) | (have := HG3.out.2; omega)) (ownsRow_below (by first | exact HR1.out | exact HR2.out | exact HR3.out) HB.out)).mono ?_; rintro e2 w2 ⟨rfl, hb2⟩; have P := Lib.hid (P.out.after hb2); have PT := Lib.hid (PT.out.after hb2); have HB := Lib.hid (HB.out.trans (hb2.mono HB.out.size)); have hzz := HB.out.size; obtain ⟨n0, n1, n2⟩ := F.out _ HB.out; clear hb2; obtain ⟨n3, n4, n5, n6⟩ := F2.out _ HB.out)
              | (go_at_call 23; refine (stageNameR_any _ _ (by first | (have := HG1.out.2; omega) | (have := HG3.out.2; omega))).mono ?_; rintro e4 w4 ⟨rfl, rfl⟩; first | rw [HS1.out] | rw [HS3.out])
              | (go_at_call 24; refine (calledR_any st _ _ c scs _ (by omega) (HR.out.below HB.out) HSL.out HN.out).mono ?_; rintro e5 w5 ⟨rfl, rfl⟩; first | rw [HC1.out])
              | (go_at_call 9; refine (bad_any _ _ _).mono ?_; rintro e8 w8 ⟨rfl, hb2⟩; simp only [faultV]; have P := Lib.hid (P.out.after hb2); have PT := Lib.hid (PT.out.after hb2); have HB := Lib.hid (HB.out.trans (hb2.mono HB.out.size)); have hzz := HB.out.size; obtain ⟨n0, n1, n2⟩ := F.out _ HB.out; clear hb2; obtain ⟨d0, d1, d2, d3⟩ := P.out.facts))
            refine bodyPost_ret (by simp [results, Tryd.results13, go_sem, d0, d1]; try rfl) rfl ?_
            exact ⟨stagesOut_err Y.out rfl, two_new (st := st) (ao := none) (c := c) hB (HB.out.mono hB) (KeepX.below HB.out) (Nat.le_refl _) _ _⟩
          · have HS1 := Lib.hid hs
            rcases calledB_cases st (nth ws 1).text with hk | ⟨k, hkl, hk⟩
            · have HC1 := Lib.hid hk
              by_cases hsc : (nth ws 1).text = wSCRATCH
              · have hsc' : ((nth ws 1).text == [115, 99, 114, 97, 116, 99, 104]) = true := by rw [hsc]; decide
                have HQ := Lib.hid (show ∀ r, (if stageB (nth ws 1).text = false then (.error (5, (nth ws 1).at_) : Except Flt (List StageG)) else if calledB st (nth ws 1).text < 0 ∧ (nth ws 1).text ≠ wSCRATCH then .error (6, (nth ws 1).at_) else r) = r from fun r => by rw [hs, hk]; simp [hsc])
                have HVO := Lib.hid (show varsOf st (calledB st (nth ws 1).text) = [] by rw [hk]; exact varsOf_neg (by omega))
                have HK := Lib.hid hk
                clear hs hk hsc
                by_cases hns : (nth ws 3).text = wSCRATCH
                · have hns' : ((nth ws 3).text == [115, 99, 114, 97, 116, 99, 104]) = true := by rw [hns]; decide
                  have Y := Lib.hid (show fromB st ws = .error (6, (nth ws 3).at_) by unfold fromB; rw [HNB.out]; simp only; rw [HQ.out, if_pos ⟨HNE.out, .inl hns⟩])
                  clear hns
                  go_enter Tryd.func13, Tryd.ntmps13
                  go_wp2_with (first
                    | (go_at_call 11; refine (plainR_any _ _ _ _ (by first | exact HG1.out.1 | exact HG2.out.1 | exact HG3.out.1) (by first | (have := HG1.out.2; omega) | (have := HG2.out.2; omega) | (have := HG3.out.2; omega)) (ownsRow_below (by first | exact HR1.out | exact HR2.out | exact HR3.out) HB.out)).mono ?_; rintro e2 w2 ⟨rfl, hb2⟩; have P := Lib.hid (P.out.after hb2); have PT := Lib.hid (PT.out.after hb2); have HB := Lib.hid (HB.out.trans (hb2.mono HB.out.size)); have hzz := HB.out.size; obtain ⟨n0, n1, n2⟩ := F.out _ HB.out; clear hb2; obtain ⟨n3, n4, n5, n6⟩ := F2.out _ HB.out)
                    | (go_at_call 23; refine (stageNameR_any _ _ (by first | (have := HG1.out.2; omega) | (have := HG3.out.2; omega))).mono ?_; rintro e4 w4 ⟨rfl, rfl⟩; first | rw [HS1.out] | rw [HS3.out])
                    | (go_at_call 24; refine (calledR_any st _ _ c scs _ (by omega) (HR.out.below HB.out) HSL.out HN.out).mono ?_; rintro e5 w5 ⟨rfl, rfl⟩; first | rw [HC1.out])
                    | (go_at_call 9; refine (bad_any _ _ _).mono ?_; rintro e8 w8 ⟨rfl, hb2⟩; simp only [faultV]; have P := Lib.hid (P.out.after hb2); have PT := Lib.hid (PT.out.after hb2); have HB := Lib.hid (HB.out.trans (hb2.mono HB.out.size)); have hzz := HB.out.size; obtain ⟨n0, n1, n2⟩ := F.out _ HB.out; clear hb2; obtain ⟨d0, d1, d2, d3⟩ := P.out.facts))
                  refine bodyPost_ret (by simp [results, Tryd.results13, go_sem, d0, d1]; try rfl) rfl ?_
                  exact ⟨stagesOut_err Y.out rfl, two_new (st := st) (ao := none) (c := c) hB (HB.out.mono hB) (KeepX.below HB.out) (Nat.le_refl _) _ _⟩
                · have hns' : ((nth ws 3).text == [115, 99, 114, 97, 116, 99, 104]) = false := by simpa using (show ¬ (nth ws 3).text = [115, 99, 114, 97, 116, 99, 104] from hns)
                  rcases calledB_cases st (nth ws 3).text with hk3 | ⟨k3, hkl3, hk3⟩
                  · have HC3 := Lib.hid hk3
                    have HQ2 := Lib.hid (show ∀ r : Except Flt (List StageG), (if (nth ws 3).text ≠ [] ∧ ((nth ws 3).text = wSCRATCH ∨ 0 ≤ calledB st (nth ws 3).text) then .error (6, (nth ws 3).at_) else r) = r from fun r => by rw [if_neg]; rw [hk3]; rintro ⟨_, h | h⟩; exact hns h; omega)
                    clear hns hk3
                    by_cases h5 : st.length = 5
                    · have h5' : ((st.length : Int) == 5) = true := by rw [h5]; rfl
                      have Y := Lib.hid (show fromB st ws = .error (10, (nth ws 0).at_) by unfold fromB; rw [HNB.out]; simp only; rw [HQ.out, HQ2.out, if_pos h5])
                      clear h5
                      go_enter Tryd.func13, Tryd.ntmps13
                      go_wp2_with (first
                        | (go_at_call 11; refine (plainR_any _ _ _ _ (by first | exact HG1.out.1 | exact HG2.out.1 | exact HG3.out.1) (by first | (have := HG1.out.2; omega) | (have := HG2.out.2; omega) | (have := HG3.out.2; omega)) (ownsRow_below (by first | exact HR1.out | exact HR2.out | exact HR3.out) HB.out)).mono ?_; rintro e2 w2 ⟨rfl, hb2⟩; have P := Lib.hid (P.out.after hb2); have PT := Lib.hid (PT.out.after hb2); have HB := Lib.hid (HB.out.trans (hb2.mono HB.out.size)); have hzz := HB.out.size; obtain ⟨n0, n1, n2⟩ := F.out _ HB.out; clear hb2; obtain ⟨n3, n4, n5, n6⟩ := F2.out _ HB.out)
                        | (go_at_call 23; refine (stageNameR_any _ _ (by first | (have := HG1.out.2; omega) | (have := HG3.out.2; omega))).mono ?_; rintro e4 w4 ⟨rfl, rfl⟩; first | rw [HS1.out] | rw [HS3.out])
                        | (go_at_call 24; refine (calledR_any st _ _ c scs _ (by omega) (HR.out.below HB.out) HSL.out HN.out).mono ?_; rintro e5 w5 ⟨rfl, rfl⟩; first | rw [HC1.out] | rw [HC3.out])
                        | (go_at_call 9; refine (bad_any _ _ _).mono ?_; rintro e8 w8 ⟨rfl, hb2⟩; simp only [faultV]; have P := Lib.hid (P.out.after hb2); have PT := Lib.hid (PT.out.after hb2); have HB := Lib.hid (HB.out.trans (hb2.mono HB.out.size)); have hzz := HB.out.size; obtain ⟨n0, n1, n2⟩ := F.out _ HB.out; clear hb2; obtain ⟨d0, d1, d2, d3⟩ := P.out.facts))
                      refine bodyPost_ret (by simp [results, Tryd.results13, go_sem, d0, d1]; try rfl) rfl ?_
                      exact ⟨stagesOut_err Y.out rfl, two_new (st := st) (ao := none) (c := c) hB (HB.out.mono hB) (KeepX.below HB.out) (Nat.le_refl _) _ _⟩
                    · have h5' : ((st.length : Int) == 5) = false := by rw [beq_eq_false_iff_ne]; omega
                      have Y := Lib.hid (show fromB st ws = .ok (st ++ [⟨(nth ws 3).text, -1, [], []⟩]) by unfold fromB; rw [HNB.out]; simp only; rw [HQ.out, HQ2.out, if_neg h5, HVO.out, HK.out])
                      go_enter Tryd.func13, Tryd.ntmps13
                      go_wp2_with (first
                        | (go_at_call 11; refine (plainR_any _ _ _ _ (by first | exact HG1.out.1 | exact HG2.out.1 | exact HG3.out.1) (by first | (have := HG1.out.2; omega) | (have := HG2.out.2; omega) | (have := HG3.out.2; omega)) (ownsRow_below (by first | exact HR1.out | exact HR2.out | exact HR3.out) HB.out)).mono ?_; rintro e2 w2 ⟨rfl, hb2⟩; have P := Lib.hid (P.out.after hb2); have PT := Lib.hid (PT.out.after hb2); have HB := Lib.hid (HB.out.trans (hb2.mono HB.out.size)); have hzz := HB.out.size; obtain ⟨n0, n1, n2⟩ := F.out _ HB.out; clear hb2; obtain ⟨n3, n4, n5, n6⟩ := F2.out _ HB.out)
                        | (go_at_call 23; refine (stageNameR_any _ _ (by first | (have := HG1.out.2; omega) | (have := HG3.out.2; omega))).mono ?_; rintro e4 w4 ⟨rfl, rfl⟩; first | rw [HS1.out] | rw [HS3.out])
                        | (go_at_call 24; refine (calledR_any st _ _ c scs _ (by omega) (HR.out.below HB.out) HSL.out HN.out).mono ?_; rintro e5 w5 ⟨rfl, rfl⟩; first | rw [HC1.out] | rw [HC3.out])
                        | (at_builtin; refine wpList_append_own _ rfl _ _ 26 rfl B tStage i0 (.agg #[.string ByteArray.empty, .int .i64 0, .slice none 0 0, .slice none 0 0]) 4 72 Tryd.underlying26 hi0 hz0 hz1 hz2 rfl (by decide) _ _ _ rfl (ownsRow_below HSO.out ((HB.out.alloc (by omega) _).alloc (by simp; omega) _)) ⟨_, 0, none⟩ 1 1 [.string (S (nth ws 3).text), .int .i64 (-1), .slice none 0 0, .slice none 0 0] rfl rfl (cells4_at _ _ _ _ _ _ _ (by simp)) (by simp [Value.oneCell']) (by unfold maxLen; omega) (by omega) (by simp; omega) ?_; intro v' w3 hown3 hgr3 _; obtain ⟨ao', c', rfl⟩ := ownsRow_form hown3; have PP := StagesR.push (x := ⟨(nth ws 3).text, -1, [], []⟩) HSO.out HSC.out ((HB.out.alloc (by omega) _).alloc (by simp; omega) _) hgr3 ⟨⟨[], World.ownsRow_nil _ _ _ _, rfl⟩, World.ownsRow_nil _ _ _ _, by simp [Value.ownBlock], by simp [Value.ownBlock]⟩ hown3 hB; have HP := Lib.hid PP.1; have HX := Lib.hid PP.2; have P := Lib.hid (((P.out.alloc _).alloc _).grown hgr3 (own_new HSO.out)); have PT := Lib.hid (((PT.out.alloc _).alloc _).grown hgr3 (own_new HSO.out)); have HB3 := Lib.hid ((((HB.out.alloc (by omega) _).alloc (by simp; omega) _).mono hB).grown hgr3 (by simp; omega) (own_le HSO.out)); clear hown3 hgr3 PP)
                        | (go_at_call 15; refine (fine_any _).mono ?_; rintro e8 w8 ⟨rfl, hb8⟩; simp only [faultV]; obtain ⟨d0, d1, d2, d3⟩ := (P.out.after hb8).facts; have HB8 := Lib.hid hb8; clear hb8))
                      refine bodyPost_ret (by simp [results, Tryd.results13, go_sem, d0, d1]; try rfl) rfl ?_
                      exact ⟨stagesOut_ok Y.out (by simp) rfl ((HP.out.after HB8.out).two (PT.out.after HB8.out) _ _), two_new (st := st) (ao := none) (c := c) hB (HB3.out.trans (HB8.out.mono (Nat.le_trans hB HB3.out.size))) (HX.out.trans (KeepX.below HB8.out)) (Nat.le_refl _) _ _⟩
                  · have HC3 := Lib.hid hk3
                    have Y := Lib.hid (show fromB st ws = .error (6, (nth ws 3).at_) by unfold fromB; rw [HNB.out]; simp only; rw [HQ.out, if_pos ⟨HNE.out, .inr (by omega)⟩])
                    clear hns hk3
                    go_enter Tryd.func13, Tryd.ntmps13
                    go_wp2_with (first
                      | (go_at_call 11; refine (plainR_any _ _ _ _ (by first | exact HG1.out.1 | exact HG2.out.1 | exact HG3.out.1) (by first | (have := HG1.out.2; omega) | (have := HG2.out.2; omega) | (have := HG3.out.2; omega)) (ownsRow_below (by first | exact HR1.out | exact HR2.out | exact HR3.out) HB.out)).mono ?_; rintro e2 w2 ⟨rfl, hb2⟩; have P := Lib.hid (P.out.after hb2); have PT := Lib.hid (PT.out.after hb2); have HB := Lib.hid (HB.out.trans (hb2.mono HB.out.size)); have hzz := HB.out.size; obtain ⟨n0, n1, n2⟩ := F.out _ HB.out; clear hb2; obtain ⟨n3, n4, n5, n6⟩ := F2.out _ HB.out)
                      | (go_at_call 23; refine (stageNameR_any _ _ (by first | (have := HG1.out.2; omega) | (have := HG3.out.2; omega))).mono ?_; rintro e4 w4 ⟨rfl, rfl⟩; first | rw [HS1.out] | rw [HS3.out])
                      | (go_at_call 24; refine (calledR_any st _ _ c scs _ (by omega) (HR.out.below HB.out) HSL.out HN.out).mono ?_; rintro e5 w5 ⟨rfl, rfl⟩; first | rw [HC1.out] | rw [HC3.out])
                      | (go_at_call 9; refine (bad_any _ _ _).mono ?_; rintro e8 w8 ⟨rfl, hb2⟩; simp only [faultV]; have P := Lib.hid (P.out.after hb2); have PT := Lib.hid (PT.out.after hb2); have HB := Lib.hid (HB.out.trans (hb2.mono HB.out.size)); have hzz := HB.out.size; obtain ⟨n0, n1, n2⟩ := F.out _ HB.out; clear hb2; obtain ⟨d0, d1, d2, d3⟩ := P.out.facts))
                    refine bodyPost_ret (by simp [results, Tryd.results13, go_sem, d0, d1]; try rfl) rfl ?_
                    exact ⟨stagesOut_err Y.out rfl, two_new (st := st) (ao := none) (c := c) hB (HB.out.mono hB) (KeepX.below HB.out) (Nat.le_refl _) _ _⟩
              · have hsc' : ((nth ws 1).text == [115, 99, 114, 97, 116, 99, 104]) = false := by simpa using (show ¬ (nth ws 1).text = [115, 99, 114, 97, 116, 99, 104] from hsc)
                have Y := Lib.hid (show fromB st ws = .error (6, (nth ws 1).at_) by unfold fromB; rw [HNB.out]; simp [hs, hk, hsc])
                clear hs hk hsc
                go_enter Tryd.func13, Tryd.ntmps13
                go_wp2_with (first
                  | (go_at_call 11; refine (plainR_any _ _ _ _ (by first | exact HG1.out.1 | exact HG2.out.1 | exact HG3.out.1) (by first | (have := HG1.out.2; omega) | (have := HG2.out.2; omega) | (have := HG3.out.2; omega)) (ownsRow_below (by first | exact HR1.out | exact HR2.out | exact HR3.out) HB.out)).mono ?_; rintro e2 w2 ⟨rfl, hb2⟩; have P := Lib.hid (P.out.after hb2); have PT := Lib.hid (PT.out.after hb2); have HB := Lib.hid (HB.out.trans (hb2.mono HB.out.size)); have hzz := HB.out.size; obtain ⟨n0, n1, n2⟩ := F.out _ HB.out; clear hb2; obtain ⟨n3, n4, n5, n6⟩ := F2.out _ HB.out)
                  | (go_at_call 23; refine (stageNameR_any _ _ (by first | (have := HG1.out.2; omega) | (have := HG3.out.2; omega))).mono ?_; rintro e4 w4 ⟨rfl, rfl⟩; first | rw [HS1.out] | rw [HS3.out])
                  | (go_at_call 24; refine (calledR_any st _ _ c scs _ (by omega) (HR.out.below HB.out) HSL.out HN.out).mono ?_; rintro e5 w5 ⟨rfl, rfl⟩; first | rw [HC1.out])
                  | (go_at_call 9; refine (bad_any _ _ _).mono ?_; rintro e8 w8 ⟨rfl, hb2⟩; simp only [faultV]; have P := Lib.hid (P.out.after hb2); have PT := Lib.hid (PT.out.after hb2); have HB := Lib.hid (HB.out.trans (hb2.mono HB.out.size)); have hzz := HB.out.size; obtain ⟨n0, n1, n2⟩ := F.out _ HB.out; clear hb2; obtain ⟨d0, d1, d2, d3⟩ := P.out.facts))
                refine bodyPost_ret (by simp [results, Tryd.results13, go_sem, d0, d1]; try rfl) rfl ?_
                exact ⟨stagesOut_err Y.out rfl, two_new (st := st) (ao := none) (c := c) hB (HB.out.mono hB) (KeepX.below HB.out) (Nat.le_refl _) _ _⟩
            · have HC1 := Lib.hid hk
              have HQ := Lib.hid (show ∀ r, (if stageB (nth ws 1).text = false then (.error (5, (nth ws 1).at_) : Except Flt (List StageG)) else if calledB st (nth ws 1).text < 0 ∧ (nth ws 1).text ≠ wSCRATCH then .error (6, (nth ws 1).at_) else r) = r from fun r => by rw [hs, hk, if_neg (by simp), if_neg (by omega)])
              have HVO := Lib.hid (show varsOf st (calledB st (nth ws 1).text) = st[k].vars by rw [hk]; exact varsOf_at hkl)
              have HK := Lib.hid hk
              clear hs hk
              by_cases hns : (nth ws 3).text = wSCRATCH
              · have hns' : ((nth ws 3).text == [115, 99, 114, 97, 116, 99, 104]) = true := by rw [hns]; decide
                have Y := Lib.hid (show fromB st ws = .error (6, (nth ws 3).at_) by unfold fromB; rw [HNB.out]; simp only; rw [HQ.out, if_pos ⟨HNE.out, .inl hns⟩])
                clear hns
                go_enter Tryd.func13, Tryd.ntmps13
                go_wp2_with (first
                  | (go_at_call 11; refine (plainR_any _ _ _ _ (by first | exact HG1.out.1 | exact HG2.out.1 | exact HG3.out.1) (by first | (have := HG1.out.2; omega) | (have := HG2.out.2; omega) | (have := HG3.out.2; omega)) (ownsRow_below (by first | exact HR1.out | exact HR2.out | exact HR3.out) HB.out)).mono ?_; rintro e2 w2 ⟨rfl, hb2⟩; have P := Lib.hid (P.out.after hb2); have PT := Lib.hid (PT.out.after hb2); have HB := Lib.hid (HB.out.trans (hb2.mono HB.out.size)); have hzz := HB.out.size; obtain ⟨n0, n1, n2⟩ := F.out _ HB.out; clear hb2; obtain ⟨n3, n4, n5, n6⟩ := F2.out _ HB.out)
                  | (go_at_call 23; refine (stageNameR_any _ _ (by first | (have := HG1.out.2; omega) | (have := HG3.out.2; omega))).mono ?_; rintro e4 w4 ⟨rfl, rfl⟩; first | rw [HS1.out] | rw [HS3.out])
                  | (go_at_call 24; refine (calledR_any st _ _ c scs _ (by omega) (HR.out.below HB.out) HSL.out HN.out).mono ?_; rintro e5 w5 ⟨rfl, rfl⟩; first | rw [HC1.out])
                  | (go_at_call 9; refine (bad_any _ _ _).mono ?_; rintro e8 w8 ⟨rfl, hb2⟩; simp only [faultV]; have P := Lib.hid (P.out.after hb2); have PT := Lib.hid (PT.out.after hb2); have HB := Lib.hid (HB.out.trans (hb2.mono HB.out.size)); have hzz := HB.out.size; obtain ⟨n0, n1, n2⟩ := F.out _ HB.out; clear hb2; obtain ⟨d0, d1, d2, d3⟩ := P.out.facts))
                refine bodyPost_ret (by simp [results, Tryd.results13, go_sem, d0, d1]; try rfl) rfl ?_
                exact ⟨stagesOut_err Y.out rfl, two_new (st := st) (ao := none) (c := c) hB (HB.out.mono hB) (KeepX.below HB.out) (Nat.le_refl _) _ _⟩
              · have hns' : ((nth ws 3).text == [115, 99, 114, 97, 116, 99, 104]) = false := by simpa using (show ¬ (nth ws 3).text = [115, 99, 114, 97, 116, 99, 104] from hns)
                rcases calledB_cases st (nth ws 3).text with hk3 | ⟨k3, hkl3, hk3⟩
                · have HC3 := Lib.hid hk3
                  have HQ2 := Lib.hid (show ∀ r : Except Flt (List StageG), (if (nth ws 3).text ≠ [] ∧ ((nth ws 3).text = wSCRATCH ∨ 0 ≤ calledB st (nth ws 3).text) then .error (6, (nth ws 3).at_) else r) = r from fun r => by rw [if_neg]; rw [hk3]; rintro ⟨_, h | h⟩; exact hns h; omega)
                  clear hns hk3
                  by_cases h5 : st.length = 5
                  · have h5' : ((st.length : Int) == 5) = true := by rw [h5]; rfl
                    have Y := Lib.hid (show fromB st ws = .error (10, (nth ws 0).at_) by unfold fromB; rw [HNB.out]; simp only; rw [HQ.out, HQ2.out, if_pos h5])
                    clear h5
                    go_enter Tryd.func13, Tryd.ntmps13
                    go_wp2_with (first
                      | (go_at_call 11; refine (plainR_any _ _ _ _ (by first | exact HG1.out.1 | exact HG2.out.1 | exact HG3.out.1) (by first | (have := HG1.out.2; omega) | (have := HG2.out.2; omega) | (have := HG3.out.2; omega)) (ownsRow_below (by first | exact HR1.out | exact HR2.out | exact HR3.out) HB.out)).mono ?_; rintro e2 w2 ⟨rfl, hb2⟩; have P := Lib.hid (P.out.after hb2); have PT := Lib.hid (PT.out.after hb2); have HB := Lib.hid (HB.out.trans (hb2.mono HB.out.size)); have hzz := HB.out.size; obtain ⟨n0, n1, n2⟩ := F.out _ HB.out; clear hb2; obtain ⟨n3, n4, n5, n6⟩ := F2.out _ HB.out)
                      | (go_at_call 23; refine (stageNameR_any _ _ (by first | (have := HG1.out.2; omega) | (have := HG3.out.2; omega))).mono ?_; rintro e4 w4 ⟨rfl, rfl⟩; first | rw [HS1.out] | rw [HS3.out])
                      | (go_at_call 24; refine (calledR_any st _ _ c scs _ (by omega) (HR.out.below HB.out) HSL.out HN.out).mono ?_; rintro e5 w5 ⟨rfl, rfl⟩; first | rw [HC1.out] | rw [HC3.out])
                      | (go_at_call 9; refine (bad_any _ _ _).mono ?_; rintro e8 w8 ⟨rfl, hb2⟩; simp only [faultV]; have P := Lib.hid (P.out.after hb2); have PT := Lib.hid (PT.out.after hb2); have HB := Lib.hid (HB.out.trans (hb2.mono HB.out.size)); have hzz := HB.out.size; obtain ⟨n0, n1, n2⟩ := F.out _ HB.out; clear hb2; obtain ⟨d0, d1, d2, d3⟩ := P.out.facts))
                    refine bodyPost_ret (by simp [results, Tryd.results13, go_sem, d0, d1]; try rfl) rfl ?_
                    exact ⟨stagesOut_err Y.out rfl, two_new (st := st) (ao := none) (c := c) hB (HB.out.mono hB) (KeepX.below HB.out) (Nat.le_refl _) _ _⟩
                  · have h5' : ((st.length : Int) == 5) = false := by rw [beq_eq_false_iff_ne]; omega
                    have Y := Lib.hid (show fromB st ws = .ok (st ++ [⟨(nth ws 3).text, (k : Int), [], st[k].vars⟩]) by unfold fromB; rw [HNB.out]; simp only; rw [HQ.out, HQ2.out, if_neg h5, HVO.out, HK.out])
                    obtain ⟨sv, vv, -, -, -, g4, hat⟩ := HSC.out.get k hkl
                    obtain ⟨b2, o2, rfl, hb2', hc2⟩ := HR.out.at (k * 4 + 3) (by rw [HSL.out]; omega)
                    obtain ⟨va, vc, rfl⟩ := ownsRow_form hat.vars
                    have HVV := Lib.hid (ownsRow_base hat.vars (Nat.zero_le _))
                    have hvl : st[k].vars.length ≤ 100 := HV5.out _ (List.getElem_mem hkl)
                    have m4 : w.cell? ⟨b2, o2 + (k * 4 + 3), none⟩ = some (.slice va st[k].vars.length vc) := hc2 _ _ g4
                    clear g4 hat hc2
                    have F4 := Lib.hid (show ∀ wx, Below w.heap.size w wx → wx.cell? ⟨b2, o2 + k * 4 + 3, none⟩ = some (.slice va st[k].vars.length vc) from fun wx hx => by rw [Nat.add_assoc]; exact (hx.cell (p := ⟨b2, o2 + (k * 4 + 3), none⟩) hb2').trans m4)
                    go_enter Tryd.func13, Tryd.ntmps13
                    go_wp2_with (first
                      | (go_at_call 11; refine (plainR_any _ _ _ _ (by first | exact HG1.out.1 | exact HG2.out.1 | exact HG3.out.1) (by first | (have := HG1.out.2; omega) | (have := HG2.out.2; omega) | (have := HG3.out.2; omega)) (ownsRow_below (by first | exact HR1.out | exact HR2.out | exact HR3.out) HB.out)).mono ?_; rintro e2 w2 ⟨rfl, hb2⟩; have P := Lib.hid (P.out.after hb2); have PT := Lib.hid (PT.out.after hb2); have HB := Lib.hid (HB.out.trans (hb2.mono HB.out.size)); have hzz := HB.out.size; obtain ⟨n0, n1, n2⟩ := F.out _ HB.out; clear hb2; obtain ⟨n3, n4, n5, n6⟩ := F2.out _ HB.out)
                      | (go_at_call 23; refine (stageNameR_any _ _ (by first | (have := HG1.out.2; omega) | (have := HG3.out.2; omega))).mono ?_; rintro e4 w4 ⟨rfl, rfl⟩; first | rw [HS1.out] | rw [HS3.out])
                      | (go_at_call 24; refine (calledR_any st _ _ c scs _ (by omega) (HR.out.below HB.out) HSL.out HN.out).mono ?_; rintro e5 w5 ⟨rfl, rfl⟩; first | rw [HC1.out] | rw [HC3.out]; have n9 := F4.out _ HB.out; have lt9 := Nat.lt_of_lt_of_le hb2' HB.out.size))
                    go_region_law (refine step_append_row (by rfl) (.tmp 125) (.tmp 130) 56 (by rfl) w.heap.size tText i1 (.string ByteArray.empty) 1 16 Tryd.underlying56 hi1 hz3 hz4 hz5 (by rfl) (by decide) (.slice none 0 0) 0 [] (by rfl) (World.ownsRow_nil _ _ _ _) (.slice va st[k].vars.length vc) st[k].vars.length 0 (strs st[k].vars) (by rfl) (ownsRow_below HVV.out (HB.out.alloc (by omega) _).drew) (strs_one _) (by unfold maxLen; omega) (by omega) (by simp; omega) ?_; intro va' vc' w9 hown9 hgr9; simp only [List.nil_append, Nat.zero_add] at hown9; have hz9 := hgr9.size; have HB9 := Lib.hid ((HB.out.alloc (by omega) _).drew.grown hgr9 (by simp; omega) (fun z hz => by simp [Value.ownBlock] at hz)); have P9 := Lib.hid ((P.out.alloc _).drew.grown hgr9 (by simp [Value.ownBlock])); have PT9 := Lib.hid ((PT.out.alloc _).drew.grown hgr9 (by simp [Value.ownBlock])); obtain ⟨x1, x2, x3, x4, x5, x6, x7, x8⟩ := Blk4.facts ((Blk4.new _ _ _ _ _ _).drew.grown hgr9 (by simp [Value.ownBlock])); have BT9 := Lib.hid ((BlkT.new _ _ tStage).drew.grown hgr9 (by simp [Value.ownBlock])); have O9 := Lib.hid hown9; clear hown9 hgr9)
                    all_goals
                      have ne9 : w.heap.size ≠ w2.heap.size := by have := P.out.lt; omega
                      have HBX := Lib.hid ((HB9.out.setCell (p := ⟨w2.heap.size, 3, none⟩) HB.out.size (.slice va' st[k].vars.length vc')).alloc (by simp only [World.size_setCell]; exact HB9.out.size) (.cells #[.string (S (nth ws 3).text), .int .i64 (k : Int), .slice none 0 0, .slice va' st[k].vars.length vc'] tStage))
                      have OX := Lib.hid ((ownsRow_keep O9.out (KeepT.setT BT9.out (by decide) 3 (.slice va' st[k].vars.length vc'))).alloc (.cells #[.string (S (nth ws 3).text), .int .i64 (k : Int), .slice none 0 0, .slice va' st[k].vars.length vc'] tStage))
                      have PX := Lib.hid ((P9.out.far (o := 3) (.slice va' st[k].vars.length vc') ne9).alloc (.cells #[.string (S (nth ws 3).text), .int .i64 (k : Int), .slice none 0 0, .slice va' st[k].vars.length vc'] tStage))
                      have PTX := Lib.hid ((PT9.out.far (o := 3) (.slice va' st[k].vars.length vc') ne9).alloc (.cells #[.string (S (nth ws 3).text), .int .i64 (k : Int), .slice none 0 0, .slice va' st[k].vars.length vc'] tStage))
                      have szX := HBX.out.size
                      go_wp2_with (first
                        | (at_builtin; refine wpList_append_own _ rfl _ _ 26 rfl B tStage i0 (.agg #[.string ByteArray.empty, .int .i64 0, .slice none 0 0, .slice none 0 0]) 4 72 Tryd.underlying26 hi0 hz0 hz1 hz2 rfl (by decide) _ _ _ rfl (ownsRow_below HSO.out HBX.out) ⟨_, 0, none⟩ 1 1 [.string (S (nth ws 3).text), .int .i64 (k : Int), .slice none 0 0, .slice va' st[k].vars.length vc'] rfl rfl (cells4_at _ _ _ _ _ _ _ (by simp)) (by simp [Value.oneCell']) (by unfold maxLen; omega) (by omega) (Nat.le_trans hB szX) ?_; intro v' w3 hown3 hgr3 _; obtain ⟨ao', c', rfl⟩ := ownsRow_form hown3; have PP := StagesR.push (x := ⟨(nth ws 3).text, (k : Int), [], st[k].vars⟩) HSO.out HSC.out HBX.out hgr3 ⟨⟨[], World.ownsRow_nil _ _ _ _, rfl⟩, OX.out, by simp [Value.ownBlock], own_lt OX.out⟩ hown3 hB; have HP := Lib.hid PP.1; have HX := Lib.hid PP.2; have P := Lib.hid (PX.out.grown hgr3 (own_new HSO.out)); have PT := Lib.hid (PTX.out.grown hgr3 (own_new HSO.out)); have HB3 := Lib.hid ((HBX.out.mono hB).grown hgr3 (Nat.le_trans hB szX) (own_le HSO.out)); clear hown3 hgr3 PP)
                        | (go_at_call 15; refine (fine_any _).mono ?_; rintro e8 w8 ⟨rfl, hb8⟩; simp only [faultV]; obtain ⟨d0, d1, d2, d3⟩ := (P.out.after hb8).facts; have HB8 := Lib.hid hb8; clear hb8))
                      refine bodyPost_ret (by simp [results, Tryd.results13, go_sem, d0, d1]; try rfl) rfl ?_
                      exact ⟨stagesOut_ok Y.out (by simp) rfl ((HP.out.after HB8.out).two (PT.out.after HB8.out) _ _), two_new (st := st) (ao := none) (c := c) hB (HB3.out.trans (HB8.out.mono (Nat.le_trans hB HB3.out.size))) (HX.out.trans (KeepX.below HB8.out)) (Nat.le_refl _) _ _⟩
                · have HC3 := Lib.hid hk3
                  have Y := Lib.hid (show fromB st ws = .error (6, (nth ws 3).at_) by unfold fromB; rw [HNB.out]; simp only; rw [HQ.out, if_pos ⟨HNE.out, .inr (by omega)⟩])
                  clear hns hk3
                  go_enter Tryd.func13, Tryd.ntmps13
                  go_wp2_with (first
                    | (go_at_call 11; refine (plainR_any _ _ _ _ (by first | exact HG1.out.1 | exact HG2.out.1 | exact HG3.out.1) (by first | (have := HG1.out.2; omega) | (have := HG2.out.2; omega) | (have := HG3.out.2; omega)) (ownsRow_below (by first | exact HR1.out | exact HR2.out | exact HR3.out) HB.out)).mono ?_; rintro e2 w2 ⟨rfl, hb2⟩; have P := Lib.hid (P.out.after hb2); have PT := Lib.hid (PT.out.after hb2); have HB := Lib.hid (HB.out.trans (hb2.mono HB.out.size)); have hzz := HB.out.size; obtain ⟨n0, n1, n2⟩ := F.out _ HB.out; clear hb2; obtain ⟨n3, n4, n5, n6⟩ := F2.out _ HB.out)
                    | (go_at_call 23; refine (stageNameR_any _ _ (by first | (have := HG1.out.2; omega) | (have := HG3.out.2; omega))).mono ?_; rintro e4 w4 ⟨rfl, rfl⟩; first | rw [HS1.out] | rw [HS3.out])
                    | (go_at_call 24; refine (calledR_any st _ _ c scs _ (by omega) (HR.out.below HB.out) HSL.out HN.out).mono ?_; rintro e5 w5 ⟨rfl, rfl⟩; first | rw [HC1.out] | rw [HC3.out])
                    | (go_at_call 9; refine (bad_any _ _ _).mono ?_; rintro e8 w8 ⟨rfl, hb2⟩; simp only [faultV]; have P := Lib.hid (P.out.after hb2); have PT := Lib.hid (PT.out.after hb2); have HB := Lib.hid (HB.out.trans (hb2.mono HB.out.size)); have hzz := HB.out.size; obtain ⟨n0, n1, n2⟩ := F.out _ HB.out; clear hb2; obtain ⟨d0, d1, d2, d3⟩ := P.out.facts))
                  refine bodyPost_ret (by simp [results, Tryd.results13, go_sem, d0, d1]; try rfl) rfl ?_
                  exact ⟨stagesOut_err Y.out rfl, two_new (st := st) (ao := none) (c := c) hB (HB.out.mono hB) (KeepX.below HB.out) (Nat.le_refl _) _ _⟩
      · have has' : ((nth ws 2).text == [65, 83]) = false := by simpa using (show ¬ (nth ws 2).text = [65, 83] from has)
        have Y := Lib.hid (show fromB st ws = .error (5, (nth ws 2).at_) by unfold fromB nameB; rw [if_pos (.inr hl44), if_pos has])
        have hlen : 4 ≤ ws.length := by omega
        clear has hl3' hl2' hl44
        go_enter Tryd.func13, Tryd.ntmps13
        go_wp2_with (first
          | (go_at_call 11; refine (plainR_any _ _ _ _ (by first | exact HG1.out.1 | exact HG2.out.1) (by first | (have := HG1.out.2; omega) | (have := HG2.out.2; omega)) (ownsRow_below (by first | exact HR1.out | exact HR2.out) HB.out)).mono ?_; rintro e2 w2 ⟨rfl, hb2⟩; have P := Lib.hid (P.out.after hb2); have PT := Lib.hid (PT.out.after hb2); have HB := Lib.hid (HB.out.trans (hb2.mono HB.out.size)); have hzz := HB.out.size; obtain ⟨n0, n1, n2⟩ := F.out _ HB.out; clear hb2; obtain ⟨n3, n4, n5, n6⟩ := F2.out _ HB.out)
          | (go_at_call 9; refine (bad_any _ _ _).mono ?_; rintro e8 w8 ⟨rfl, hb2⟩; simp only [faultV]; have P := Lib.hid (P.out.after hb2); have PT := Lib.hid (PT.out.after hb2); have HB := Lib.hid (HB.out.trans (hb2.mono HB.out.size)); have hzz := HB.out.size; obtain ⟨n0, n1, n2⟩ := F.out _ HB.out; clear hb2; obtain ⟨d0, d1, d2, d3⟩ := P.out.facts))
        refine bodyPost_ret (by simp [results, Tryd.results13, go_sem, d0, d1]; try rfl) rfl ?_
        exact ⟨stagesOut_err Y.out rfl, two_new (st := st) (ao := none) (c := c) hB (HB.out.mono hB) (KeepX.below HB.out) (Nat.le_refl _) _ _⟩

theorem fromR_any (st : List StageG) (ws : List WordG) (B : Nat) (ao : Option Addr) (b o c d : Nat) (w : World) (hst : StagesR B w st ao c) (hB : B ≤ w.heap.size) (hs5 : st.length ≤ 5) (hv5 : ∀ x ∈ st, x.vars.length ≤ 100) (hws : WordsR w (some ⟨b, o, none⟩) ws) (hg : GoodW ws) (hl2 : 2 ≤ ws.length) (hl4 : ws.length ≤ 4) (hd : ws.length ≤ d) (hd2 : d ≤ maxLen) :
    Calls Tryd.prog 13 #[.slice ao st.length c, .slice (some ⟨b, o, none⟩) ws.length d] w fun e w' => stagesOut B w' e (fromB st ws) ∧ Below B w w' ∧ KeepX w w' := by
  by_cases hl2' : ws.length = 2
  · exact fromR_a st ws B ao b o c d w hst hB hs5 hv5 hws hg hl2 hl2' hl4 hd hd2
  · exact fromR_b st ws B ao b o c d w hst hB hs5 hv5 hws hg hl2 hl2' hl4 hd hd2
end Go.Proofs.YtflggoddfjmljaaDoor
namespace Go.Proofs.YtflggoddfjmljaaDoor
open Go.RowKit

theorem rowFacts {B c gb m : Nat} {w : World} {cs0 : List Value} {a b sv vv : Value} (h : w.ownsRow B tStage 4 (.slice (some ⟨gb, 0, none⟩) (m + 1) c) (m + 1) (cs0 ++ [a, b, sv, vv])) (hl : cs0.length = m * 4) :
    gb < w.heap.size ∧ w.cell? ⟨gb, m * 4 + 2, none⟩ = some sv ∧ w.cell? ⟨gb, m * 4 + 3, none⟩ = some vv ∧ w.frozen? ⟨gb, m * 4 + 2, none⟩ = false ∧ w.frozen? ⟨gb, m * 4 + 3, none⟩ = false := by
  have hc := h.cells (g := gb) rfl
  have ha : ∀ j, (⟨gb, 0, none⟩ : Addr).add j = ⟨gb, j, none⟩ := fun j => by unfold Addr.add; split <;> simp_all
  have h2 := hc (m * 4 + 2) sv (by rw [List.getElem?_append_right (by omega), hl]; simp)
  have h3 := hc (m * 4 + 3) vv (by rw [List.getElem?_append_right (by omega), hl]; simp)
  rw [ha] at h2 h3
  rcases h.2 with ⟨e, _⟩ | ⟨gb', cap, cur, e, hg, hh, r⟩
  · simp at e
  · simp only [Value.slice.injEq, Option.some.injEq, Addr.mk.injEq] at e
    obtain ⟨⟨rfl, -, -⟩, -, -⟩ := e
    exact ⟨(Array.getElem?_eq_some_iff.1 hh).1, h2, h3, frozen_of_row w gb _ _ _ hh, frozen_of_row w gb _ _ _ hh⟩

/-- the fault's and the step's variables, the step's words -/
structure SInv (g7 g9 : Nat) (op : List UInt8) (A : Option Addr) (l : List WordG) (c : Nat) (k : Int) (p : Nat) (w : World) : Prop where
  b7 : Blk2 w g7 (.int .i64 0) (.int .i64 0)
  t7 : BlkT w g7 tFault
  b9 : Blk4 w g9 (.string (S op)) (.slice A l.length c) (.int .i64 k) (.int .i64 p)
  t9 : BlkT w g9 tStep
  hw : WordsR w A l
  ne : g7 < g9
theorem SInv.after {g7 g9 : Nat} {op : List UInt8} {A : Option Addr} {l : List WordG} {c : Nat} {k : Int} {p : Nat} {w w' : World} (h : SInv g7 g9 op A l c k p w) (hb : Below w.heap.size w w') : SInv g7 g9 op A l c k p w' :=
  ⟨h.b7.after hb, h.t7.after hb, h.b9.after hb, h.t9.after hb, h.hw.keep (KeepT.below hb) (KeepT.below hb), h.ne⟩
theorem SInv.alloc {g7 g9 : Nat} {op : List UInt8} {A : Option Addr} {l : List WordG} {c : Nat} {k : Int} {p : Nat} {w : World} (h : SInv g7 g9 op A l c k p w) (o : Obj) : SInv g7 g9 op A l c k p (w.alloc o) := h.after ((Below.refl _ _).alloc (Nat.le_refl _) o)
theorem SInv.drew {g7 g9 : Nat} {op : List UInt8} {A : Option Addr} {l : List WordG} {c : Nat} {k : Int} {p : Nat} {w : World} (h : SInv g7 g9 op A l c k p w) : SInv g7 g9 op A l c k p w.drew := h.after (Below.refl _ _).drew
/-- a COPY's stage and words are stored -/
theorem SInv.took {g7 g9 : Nat} {op : List UInt8} {A A' : Option Addr} {l l' : List WordG} {c c' : Nat} {k : Int} {p : Nat} {w : World} (h : SInv g7 g9 op A l c k p w) (k' : Int) (hw : WordsR w A' l') :
    SInv g7 g9 op A' l' c' k' p ((w.setCell ⟨g9, 2, none⟩ (.int .i64 k')).setCell ⟨g9, 1, none⟩ (.slice A' l'.length c')) := by
  have hne := h.ne
  have t1 := h.t9.set 2 (.int .i64 k')
  exact ⟨(h.b7.far _ (by omega)).far _ (by omega), (h.t7.far _ (by omega)).far _ (by omega), (h.b9.set2 _).set1 _, t1.set 1 _, (hw.keep (KeepT.setT h.t9 (by decide) _ _) (KeepT.setT h.t9 (by decide) _ _)).keep (KeepT.setT t1 (by decide) _ _) (KeepT.setT t1 (by decide) _ _), h.ne⟩
/-- a row of other things grows, a stage's cell is written -/
theorem SInv.pushed {g7 g9 : Nat} {op : List UInt8} {A : Option Addr} {l : List WordG} {c : Nat} {k : Int} {p : Nat} {w w2 : World} {gb j base size n : Nat} {e : TypeId} {v u : Value} {xs : List Value} (h : SInv g7 g9 op A l c k p w)
    (hg : w.grownBy w2 v.ownBlock) (hown : w.ownsRow base e size v n xs) (he1 : e ≠ tWord) (he2 : e ≠ tAtom) (hlow : ∀ k, v.ownBlock = some k → k < g7) (hgb : gb < g7) (hbT : BlkT w2 gb tStage) :
    SInv g7 g9 op A l c k p (w2.setCell ⟨gb, j, none⟩ u) := by
  have hne := h.ne
  have n7 : some g7 ≠ v.ownBlock := fun e => by have := hlow _ e.symm; omega
  have n9 : some g9 ≠ v.ownBlock := fun e => by have := hlow _ e.symm; omega
  exact ⟨(h.b7.grown hg n7).far _ (by omega), (h.t7.grown hg n7).far _ (by omega), (h.b9.grown hg n9).far _ (by omega), (h.t9.grown hg n9).far _ (by omega), (h.hw.keep (KeepT.grown hg hown he1) (KeepT.grown hg hown he2)).keep (KeepT.setT hbT (by decide) _ _) (KeepT.setT hbT (by decide) _ _), h.ne⟩
theorem SInv.grown {g7 g9 : Nat} {op : List UInt8} {A : Option Addr} {l : List WordG} {c : Nat} {k : Int} {p : Nat} {w w2 : World} {v : Value} (h : SInv g7 g9 op A l c k p w)
    (hg : w.grownBy w2 v.ownBlock) (hlow : ∀ k, v.ownBlock = some k → k < g7) :
    Blk2 w2 g7 (.int .i64 0) (.int .i64 0) ∧ Blk4 w2 g9 (.string (S op)) (.slice A l.length c) (.int .i64 k) (.int .i64 p) := by
  have hne := h.ne
  exact ⟨h.b7.grown hg (fun e => by have := hlow _ e.symm; omega), h.b9.grown hg (fun e => by have := hlow _ e.symm; omega)⟩
theorem SInv.new (w : World) (op : List UInt8) (A : Option Addr) (l : List WordG) (c : Nat) (k : Int) (p : Nat) (hw : WordsR w A l) :
    SInv w.heap.size (w.heap.size + 1) op A l c k p ((w.alloc (.cells #[.int .i64 0, .int .i64 0] tFault)).alloc (.cells #[.string (S op), .slice A l.length c, .int .i64 k, .int .i64 p] tStep)) := by
  have h1 : (w.alloc (.cells #[.int .i64 0, .int .i64 0] tFault)).heap.size = w.heap.size + 1 := by simp
  refine ⟨(Blk2.new w _ _ _).alloc _, (BlkT.new w _ _).alloc _, ?_, ?_, ?_, by omega⟩
  · have := Blk4.new (w.alloc (.cells #[.int .i64 0, .int .i64 0] tFault)) (.string (S op)) (.slice A l.length c) (.int .i64 k) (.int .i64 p) tStep
    rwa [h1] at this
  · have := BlkT.new (w.alloc (.cells #[.int .i64 0, .int .i64 0] tFault)) #[.string (S op), .slice A l.length c, .int .i64 k, .int .i64 p] tStep
    rwa [h1] at this
  · have hb : Below w.heap.size w ((w.alloc (.cells #[.int .i64 0, .int .i64 0] tFault)).alloc (.cells #[.string (S op), .slice A l.length c, .int .i64 k, .int .i64 p] tStep)) := ((Below.refl _ _).alloc (Nat.le_refl _) _).alloc (by simp) _
    exact hw.keep (KeepT.below hb) (KeepT.below hb)
/-- variables that are not set, of words that are read -/
theorem unsetR_w (l : List WordG) (vars : List (List UInt8)) (A Bv : Option Addr) (c d : Nat) (w : World) (hl : l.length ≤ 1000) (hv : vars.length ≤ 1000) (hg : GoodW l) (hw : WordsR w A l) (hrv : Rd w Bv (strs vars)) :
    Calls Tryd.prog 28 #[.slice A l.length c, .slice Bv vars.length d] w fun e w' => e = .returned (.int .i64 (unsetV vars l)) ∧ Below w.heap.size w w' := by
  obtain ⟨cs, h1, h2⟩ := hw
  exact unsetR_any l vars A Bv c d cs w (by omega) (by omega) (fun x hx => ⟨(hg x hx).1, by have := (hg x hx).2; omega⟩) h1.rd h2 hrv
theorem unsetR_n (l : List WordG) (n : Nat) (hn : l.length = n) (vars : List (List UInt8)) (A Bv : Option Addr) (c d : Nat) (w : World) (hl : l.length ≤ 1000) (hv : vars.length ≤ 1000) (hg : GoodW l) (hw : WordsR w A l) (hrv : Rd w Bv (strs vars)) :
    Calls Tryd.prog 28 #[.slice A n c, .slice Bv vars.length d] w fun e w' => e = .returned (.int .i64 (unsetV vars l)) ∧ Below w.heap.size w w' := by
  subst hn; exact unsetR_w l vars A Bv c d w hl hv hg hw hrv
theorem SInv.b9n {g7 g9 : Nat} {op : List UInt8} {A : Option Addr} {l : List WordG} {c : Nat} {k : Int} {p : Nat} {w : World} (h : SInv g7 g9 op A l c k p w) {n : Nat} (hn : l.length = n) : Blk4 w g9 (.string (S op)) (.slice A n c) (.int .i64 k) (.int .i64 p) := by
  subst hn; exact h.b9
theorem LastR.varsRd {B H : Nat} {w : World} {init : List StageG} {y : StageG} {gb c vc : Nat} {va : Option Addr} {cs0 : List Value} {sv : Value} {scs : List Value} (h : LastR B H w init y gb c cs0 sv (.slice va y.vars.length vc) scs) : Rd w va (strs y.vars) := (RdT.of_own h.vars).rd
/-- a variable's push, all that follows from it -/
theorem pushVarAll {B H : Nat} {w w2 : World} {init : List StageG} {y : StageG} {gb c : Nat} {cs0 : List Value} {sv vv : Value} {scs : List Value} {x : List UInt8} {g7 g9 : Nat} {op : List UInt8} {A : Option Addr} {l : List WordG} {cl : Nat} {k : Int} {p : Nat} {vv' : Value} (h : LastR B H w init y gb c cs0 sv vv scs) (s : SInv g7 g9 op A l cl k p w)
    (hg : w.grownBy w2 vv.ownBlock) (hown : w2.ownsRow H tText 1 vv' (y.vars.length + 1) (strs y.vars ++ [.string (S x)])) (hlow : ∀ k, vv.ownBlock = some k → k < g7) (hgb : gb < g7) :
    (LastR B H (w2.setCell ⟨gb, init.length * 4 + 3, none⟩ vv') init ⟨y.name, y.base, y.steps, y.vars ++ [x]⟩ gb c cs0 sv vv' scs ∧ SInv g7 g9 op A l cl k p (w2.setCell ⟨gb, init.length * 4 + 3, none⟩ vv') ∧ KeepX w (w2.setCell ⟨gb, init.length * 4 + 3, none⟩ vv') ∧ Below B w (w2.setCell ⟨gb, init.length * 4 + 3, none⟩ vv')) ∧
    gb < w2.heap.size ∧ w2.cell? ⟨gb, init.length * 4 + 2, none⟩ = some sv ∧ w2.cell? ⟨gb, init.length * 4 + 3, none⟩ = some vv ∧ w2.frozen? ⟨gb, init.length * 4 + 2, none⟩ = false ∧ w2.frozen? ⟨gb, init.length * 4 + 3, none⟩ = false := by
  obtain ⟨h1, h2, h3⟩ := h.pushVar hg hown
  have hk : KeepT tStage w w2 := KeepT.grown hg h.vars (by decide)
  obtain ⟨⟨cs, hbt⟩, _⟩ := h.blkT
  exact ⟨⟨h1, s.pushed hg h.vars (by decide) (by decide) hlow hgb ⟨cs, hk gb cs hbt⟩, h2, h3⟩, rowFacts (ownsRow_keep h.own hk) h.ini.len⟩
theorem pushStepAll {B H : Nat} {w w2 : World} {init : List StageG} {y : StageG} {gb c : Nat} {cs0 : List Value} {sv vv : Value} {scs : List Value} {g7 g9 : Nat} {op : List UInt8} {A : Option Addr} {l : List WordG} {cl : Nat} {k : Int} {p : Nat} {sv' : Value} (h : LastR B H w init y gb c cs0 sv vv scs) (s : SInv g7 g9 op A l cl k p w) (n : Nat) (hn : l.length = n)
    (hg : w.grownBy w2 sv.ownBlock) (hown : w2.ownsRow H tStep 4 sv' (y.steps.length + 1) (scs ++ [.string (S op), .slice A n cl, .int .i64 k, .int .i64 p])) (hlow : ∀ k, sv.ownBlock = some k → k < g7) (hgb : gb < g7) :
    (∃ scs', LastR B H (w2.setCell ⟨gb, init.length * 4 + 2, none⟩ sv') init ⟨y.name, y.base, y.steps ++ [⟨op, l, k, p⟩], y.vars⟩ gb c cs0 sv' vv scs' ∧ SInv g7 g9 op A l cl k p (w2.setCell ⟨gb, init.length * 4 + 2, none⟩ sv') ∧ KeepX w (w2.setCell ⟨gb, init.length * 4 + 2, none⟩ sv') ∧ Below B w (w2.setCell ⟨gb, init.length * 4 + 2, none⟩ sv')) ∧
    gb < w2.heap.size ∧ w2.cell? ⟨gb, init.length * 4 + 2, none⟩ = some sv ∧ w2.cell? ⟨gb, init.length * 4 + 3, none⟩ = some vv ∧ w2.frozen? ⟨gb, init.length * 4 + 2, none⟩ = false ∧ w2.frozen? ⟨gb, init.length * 4 + 3, none⟩ = false := by
  subst hn
  obtain ⟨scs', h1, h2, h3⟩ := h.pushStep (x := ⟨op, l, k, p⟩) s.hw hg hown
  have hk : KeepT tStage w w2 := KeepT.grown hg h.steps (by decide)
  obtain ⟨⟨cs, hbt⟩, _⟩ := h.blkT
  exact ⟨⟨scs', h1, s.pushed hg h.steps (by decide) (by decide) hlow hgb ⟨cs, hk gb cs hbt⟩, h2, h3⟩, rowFacts (ownsRow_keep h.own hk) h.ini.len⟩
theorem LastR.alloc {B H : Nat} {w : World} {init : List StageG} {y : StageG} {gb c : Nat} {cs0 : List Value} {sv vv : Value} {scs : List Value} (h : LastR B H w init y gb c cs0 sv vv scs) (o : Obj) : LastR B H (w.alloc o) init y gb c cs0 sv vv scs := h.after ((Below.refl _ _).alloc (Nat.le_refl _) o)
theorem LastR.drew {B H : Nat} {w : World} {init : List StageG} {y : StageG} {gb c : Nat} {cs0 : List Value} {sv vv : Value} {scs : List Value} (h : LastR B H w init y gb c cs0 sv vv scs) : LastR B H w.drew init y gb c cs0 sv vv scs := h.after (Below.refl _ _).drew
theorem GoodW.drop {ws : List WordG} (h : GoodW ws) (k : Nat) : GoodW (ws.drop k) := fun x hx => h x (List.mem_of_mem_drop hx)
theorem unsetV_none {vars : List (List UInt8)} {l : List WordG} (h : unsetB vars l = none) : unsetV vars l = -1 := by simp [unsetV, h]
theorem unsetV_some {vars : List (List UInt8)} {l : List WordG} {p : Nat} (h : unsetB vars l = some p) : unsetV vars l = p := by simp [unsetV, h]
theorem takenB_words {st : List StageG} {ws l : List WordG} {k : Int} (h : takenB st ws = .ok (k, l)) : l = ws.drop 1 ∨ l = ws.drop 2 := by
  unfold takenB at h
  split at h
  · cases h
  · split at h
    · cases h; exact .inl rfl
    · split at h
      · cases h
      · split at h
        · cases h
        · cases h; exact .inr rfl
def EqN (a b : Nat) : Prop := a = b
theorem EqN.out {a b : Nat} (h : EqN a b) : a = b := h
theorem looksB_env {st : List StageG} {op : List UInt8} {ws : List WordG} (h : op = wENV) : looksB st op ws = if (nth ws 1).flat = false ∨ isVarB (nth ws 1).text = false then .error (5, (nth ws 1).at_) else .ok (-1, ws.drop 1) := by
  subst h; unfold looksB; rw [if_neg (by decide), if_neg (by decide), if_pos rfl]
theorem looksB_mkdir {st : List StageG} {op : List UInt8} {ws : List WordG} (h : op = wMKDIR) : looksB st op ws = if ws.length = 3 ∧ ((nth ws 2).flat = false ∨ modeB (nth ws 2).text = false) then .error (5, (nth ws 2).at_) else .ok (-1, ws.drop 1) := by
  subst h; unfold looksB; rw [if_neg (by decide), if_pos rfl]
theorem looksB_copy {st : List StageG} {op : List UInt8} {ws : List WordG} (h : op = wCOPY) : looksB st op ws = takenB st ws := by
  subst h; unfold looksB; rw [if_pos rfl]
theorem takenB_err {st : List StageG} {ws : List WordG} {f p : Nat} (h : takenB st ws = .error (f, p)) : f = 5 ∨ f = 6 := by
  unfold takenB at h
  split at h
  · cases h; exact .inl rfl
  · split at h
    · cases h
    · split at h
      · cases h; exact .inl rfl
      · split at h
        · cases h; exact .inr rfl
        · cases h
theorem takenR_n (st : List StageG) (n : Nat) (hn : st.length = n) (ws : List WordG) (B : Nat) (ao : Option Addr) (b o c d : Nat) (w : World) (hst : StagesR B w st ao c) (hs5 : st.length ≤ 5) (hws : WordsR w (some ⟨b, o, none⟩) ws) (hg : GoodW ws) (hl2 : 3 ≤ ws.length) (hl4 : ws.length ≤ 4) (hd : ws.length ≤ d) (hd2 : d ≤ maxLen) :
    Calls Tryd.prog 25 #[.slice ao n c, .slice (some ⟨b, o, none⟩) ws.length d] w fun e w' => takenOut w' e (takenB st ws) ∧ Below w.heap.size w w' := by
  subst hn; exact takenR_any st ws B ao b o c d w hst hs5 hws hg hl2 hl4 hd hd2
end Go.Proofs.YtflggoddfjmljaaDoor
namespace Go.Proofs.YtflggoddfjmljaaDoor
open Go.RowKit

set_option maxRecDepth 100000 in
set_option maxHeartbeats 2000000 in
theorem wantsR_any (x : StageG) (k : Nat) (sa va : Option Addr) (sc vn vc : Nat) (scs : List Value) (w : World) (hrd : Rd w sa scs) (hsc : StepCells w x.steps scs) (hl : x.steps.length ≤ 1000) :
    Calls Tryd.prog 16 #[.agg #[.string (S x.name), .int .i64 x.base, .slice sa x.steps.length sc, .slice va vn vc], .int .i64 k] w fun e w' => e = .returned (.bool (wantsB x k)) ∧ Below w.heap.size w w' := by
  have P := Lib.hid (Blk4.new w (.string (S x.name)) (.int .i64 x.base) (.slice sa x.steps.length sc) (.slice va vn vc) tStage)
  have hb : Below w.heap.size w (w.alloc (.cells #[.string (S x.name), .int .i64 x.base, .slice sa x.steps.length sc, .slice va vn vc] tStage)) := (Below.refl _ _).alloc (Nat.le_refl _) _
  go_enter Tryd.func16, Tryd.ntmps16
  go_wp2
  generalize hW : w.alloc (.cells #[.string (S x.name), .int .i64 x.base, .slice sa x.steps.length sc, .slice va vn vc] tStage) = w1 at *
  clear hW
  have HB := Lib.hid hb
  clear hb
  obtain ⟨x1, x2, x3, x4, x5, x6, x7, x8⟩ := P.out.facts
  clear P
  go_loop [5] (fun i => ∃ j : Nat, j ≤ x.steps.length ∧ i = .int .i64 j ∧ Hid (∀ m (hm : m < x.steps.length), m < j → x.steps[m].stage ≠ k)) (fun i => x.steps.length - (intOf i).toNat)
  case atStart => exact ⟨0, by omega, rfl, by intro m hm h; omega⟩
  case round =>
    obtain ⟨j, hj, rfl, hall⟩ := hrel
    by_cases hlt : j < x.steps.length
    · obtain ⟨b, o, rfl, hbl, hc⟩ := hrd.at (j * 4 + 2) (by rw [hsc.len]; omega)
      obtain ⟨A', c', s1, s2, s3, s4, s5⟩ := hsc.get j hlt
      have m3 : w1.cell? ⟨b, o + j * 4 + 2, none⟩ = some (.int .i64 x.steps[j].stage) := by
        have := (HB.out.cell (p := ⟨b, o + (j * 4 + 2), none⟩) hbl).trans (hc _ _ s3)
        rwa [← Nat.add_assoc] at this
      clear s1 s2 s3 s4 s5 hc
      by_cases he : x.steps[j].stage = k
      · have Y := Lib.hid (show wantsB x k = true by
          unfold wantsB
          rw [Bool.or_eq_true]; left
          rw [List.any_eq_true]; exact ⟨_, List.getElem_mem hlt, by simpa using he⟩)
        have he' : (x.steps[j].stage == (k : Int)) = true := by simpa using he
        clear hall he
        go_wp2
        go_ret
        exact ⟨ret_bool (by rw [Y.out]), HB.out⟩
      · have he' : (x.steps[j].stage == (k : Int)) = false := by simpa using he
        have HA := Lib.hid (show ∀ m (hm : m < x.steps.length), m < j + 1 → x.steps[m].stage ≠ k by
          intro m hm h
          rcases Nat.lt_or_ge m j with h1 | h1
          · exact hall.out m hm h1
          · obtain rfl : m = j := by omega
            exact he)
        clear hall he
        go_wp2
        go_round
        case rel => exact ⟨j + 1, by omega, by go_num, HA⟩
        case measure => simp [intOf]; omega
    · have Y := Lib.hid (show wantsB x k = (x.base == (k : Int)) by
        unfold wantsB
        rw [show x.steps.any (fun y => y.stage == (k : Int)) = false from by
          rw [List.any_eq_false]
          intro y hy
          obtain ⟨m, hm, rfl⟩ := List.getElem_of_mem hy
          simpa using hall.out m hm (by omega)]
        rfl)
      clear hall
      go_wp2
      go_ret
      exact ⟨ret_bool (by rw [Y.out]), HB.out⟩
end Go.Proofs.YtflggoddfjmljaaDoor
namespace Go.Proofs.YtflggoddfjmljaaDoor
open Go.RowKit

def bools (b : List Bool) : List Value := b.map .bool
def ints (l : List Nat) : List Value := l.map fun (i : Nat) => .int .i64 (i : Int)
theorem bools_len (b : List Bool) : (bools b).length = b.length := by simp [bools]
theorem bools_set (b : List Bool) (k : Nat) : (bools b).set k (.bool true) = bools (b.set k true) := by simp [bools, List.map_set]
def isOpen : Value → Bool | .bool false => true | _ => false
/-- how many cells of a block are false -/
def openOf (w : World) (g : Nat) : Nat := match w.heap[g]? with | some (.cells cur _ _) => (cur.toList.filter isOpen).length | _ => 0
theorem openOf_own {w : World} {B g n c : Nat} {e : TypeId} {b : List Bool} (h : w.ownsRow B e 1 (.slice (some ⟨g, 0, none⟩) n c) n (bools b)) (hc : c = n) : openOf w g = openB b := by
  subst hc
  rcases h.2 with ⟨e1, _⟩ | ⟨g', cap, cur, e1, hg, hh, hn, hm, r1, r2⟩
  · simp at e1
  · simp only [Value.slice.injEq, Option.some.injEq, Addr.mk.injEq] at e1
    obtain ⟨⟨rfl, -, -⟩, -, rfl⟩ := e1
    unfold openOf
    rw [hh]
    simp only
    have : cur.toList = bools b := by rw [← r2, List.take_of_length_le]; simp [r1]
    rw [this]
    unfold openB bools
    rw [List.filter_map, List.length_map]
    congr 2
    funext x
    cases x <;> rfl
theorem own_cell {w : World} {B g n c : Nat} {e : TypeId} {b : List Bool} (h : w.ownsRow B e 1 (.slice (some ⟨g, 0, none⟩) n c) n (bools b)) {k : Nat} {v : Bool} (hk : b[k]? = some v) : w.cell? ⟨g, k, none⟩ = some (.bool v) ∧ w.frozen? ⟨g, k, none⟩ = false := by
  have hc := h.cells (g := g) rfl k (.bool v) (by simp [bools, hk])
  have ha : (⟨g, 0, none⟩ : Addr).add k = ⟨g, k, none⟩ := by unfold Addr.add; split <;> simp_all
  rw [ha] at hc
  rcases h.2 with ⟨e1, _⟩ | ⟨g', cap, cur, e1, hg, hh, r⟩
  · simp at e1
  · simp only [Value.slice.injEq, Option.some.injEq, Addr.mk.injEq] at e1
    obtain ⟨⟨rfl, -, -⟩, -, -⟩ := e1
    exact ⟨hc, frozen_of_row w g _ _ _ hh⟩

/-- the marks under way -/
structure NInv (w0 : World) (gn m : Nat) (st : List StageG) (w : World) (b : List Bool) : Prop where
  own : w.ownsRow w0.heap.size 4 1 (.slice (some ⟨gn, 0, none⟩) (m + 1) (m + 1)) (m + 1) (bools b)
  marks : Marks st b
  bel : Below w0.heap.size w0 w
  gge : w0.heap.size ≤ gn
theorem NInv.after {w0 w w' : World} {gn m : Nat} {st : List StageG} {b : List Bool} (h : NInv w0 gn m st w b) (hb : Below w.heap.size w w') : NInv w0 gn m st w' b :=
  ⟨ownsRow_below h.own hb, h.marks, h.bel.trans (hb.mono h.bel.size), h.gge⟩
theorem own_gt {w : World} {B g n c size : Nat} {e : TypeId} {xs : List Value} (h : w.ownsRow B e size (.slice (some ⟨g, 0, none⟩) n c) n xs) : g + 1 ≤ w.heap.size := own_lt h g rfl
theorem NInv.grown {w0 w w' : World} {gn m B : Nat} {st : List StageG} {b : List Bool} {row : Option Nat} (h : NInv w0 gn m st w b) (hg : w.grownBy w' row) (hne : some gn ≠ row) (hB : B ≤ w.heap.size) (hr : ∀ k, row = some k → gn + 1 ≤ k) : NInv w0 gn m st w' b := by
  refine ⟨?_, h.marks, h.bel.grown hg h.bel.size (fun k hk => by have := hr k hk; have := h.gge; omega), h.gge⟩
  obtain ⟨h1, h2⟩ := h.own
  refine ⟨h1, ?_⟩
  rcases h2 with h2 | ⟨g, cap, cur, hv, hg2, hh, r⟩
  · exact .inl h2
  · refine .inr ⟨g, cap, cur, hv, hg2, (hg.block g (Array.getElem?_eq_some_iff.1 hh).1 ?_).trans hh, r⟩
    simp only [Value.slice.injEq, Option.some.injEq, Addr.mk.injEq] at hv
    rw [← hv.1.1]; exact hne
theorem NInv.mark {w0 w : World} {gn m : Nat} {st : List StageG} {b : List Bool} (h : NInv w0 gn m st w b) {k : Nat} (hk : k < m + 1) (hm : Marks st (b.set k true)) : NInv w0 gn m st (w.setCell ⟨gn, k, none⟩ (.bool true)) (b.set k true) :=
  ⟨by rw [← bools_set]; exact ownsRow_set h.own k (.bool true) (by omega), hm, Below.setCell h.bel (show w0.heap.size ≤ gn from h.gge) _, h.gge⟩
/-- of a round: nothing was marked and so far all is closed, or something was -/
def Turn (st : List StageG) (b0 b : List Bool) (mm : Bool) (i k : Nat) : Prop :=
  (mm = false ∧ b = b0 ∧ (∀ (i' k' : Nat) (hi : i' < st.length), i' < i → k' < i' → b[i']? = some true → wantsB st[i'] k' = true → b[k']? = some true) ∧
    (∀ (k' : Nat) (hi : i < st.length), k' < k → b[i]? = some true → wantsB st[i] k' = true → b[k']? = some true)) ∨ (mm = true ∧ openB b < openB b0)
def moreV : Value → Nat | .bool true => 1 | _ => 0

set_option maxRecDepth 100000 in
set_option maxHeartbeats 8000000 in
theorem neededR_n (st : List StageG) (m B c : Nat) (ao : Option Addr) (w : World) (hm : st.length = m + 1) (hst : StagesR B w st ao c) (hm5 : m ≤ 100) (hsb : StB 24 st) :
    Calls Tryd.prog 6 #[.slice ao (m + 1) c] w fun e w' => (∃ ao' c', e = .returned (.slice ao' (needL st).length c') ∧ w'.ownsRow w.heap.size 3 1 (.slice ao' (needL st).length c') (needL st).length (ints (needL st))) ∧ Below w.heap.size w w' := by
  obtain ⟨i0, hi0, hz0, hz1, hz2⟩ := info_parts (show (Tryd.prog.info? 4).map (fun i => (i.zero, i.size, i.bytes)) = some (some (.bool false), 1, 1) by kernel_rfl)
  obtain ⟨i1, hi1, hz3, hz4, hz5⟩ := info_parts (show (Tryd.prog.info? 3).map (fun i => (i.zero, i.size, i.bytes)) = some (some (.int .i64 0), 1, 8) by kernel_rfl)
  obtain ⟨cs, hso, hsc⟩ := hst.all
  have hrs := (RdT.of_own hso).rd
  have HRS := Lib.hid hrs
  have HSC := Lib.hid hsc
  have HM := Lib.hid hm
  have HSB := Lib.hid hsb
  have hne : st ≠ [] := by intro e; rw [e] at hm; simp at hm
  have M0 := Lib.hid (show Marks st ((List.replicate (m + 1) false).set m true) from ⟨by simp [hm], by rw [hm]; simp, fun i hi => by
    by_cases e : m = i
    · subst e
      have := Reach.last hne
      rwa [hm, Nat.add_sub_cancel] at this
    · rw [List.getElem?_set_ne e, List.getElem?_replicate] at hi
      split at hi <;> cases hi⟩)
  clear hso hsc hrs hst hm hsb hne
  have hm1 : (m : Int) < (m : Int) + 1 := by omega
  have hm2 : (0 : Int) ≤ (m : Int) := by omega
  go_enter Tryd.func6, Tryd.ntmps6
  go_wp2_with (at_make; refine wpList_make_full _ rfl _ _ 53 rfl w.heap.size 4 i0 (.bool false) 1 Tryd.underlying53 hi0 hz0 hz1 .i64 .i64 _ _ (m + 1) rfl rfl (by simp) (by simp) (by rw [hz2]; omega) (by unfold maxLen; omega) (Nat.le_refl _) ?_; intro w1 hown1 hgr1; have HO1 := Lib.hid hown1; have HG1 := Lib.hid hgr1; have hs1 := hgr1.size; have fz := own_cell (b := List.replicate (m + 1) false) (k := m) (v := false) (by simpa [bools, toList_madeCells_one, Value.cells] using hown1) (by simp); obtain ⟨fz1, fz2⟩ := fz; clear hown1 hgr1)
  have NI := Lib.hid (show NInv w w.heap.size m st (w1.setCell ⟨w.heap.size, m, none⟩ (.bool true)) ((List.replicate (m + 1) false).set m true) from
    ⟨by rw [← bools_set]; exact ownsRow_set (by simpa [bools, toList_madeCells_one, Value.cells] using HO1.out) m (.bool true) (by omega), M0.out, Below.setCell ((Below.refl _ _).grown HG1.out (Nat.le_refl _) (fun k hk => by cases hk)) (Nat.le_refl _) _, Nat.le_refl _⟩)
  clear hs1 fz1 fz2 HO1 HG1 M0
  generalize hW : w1.setCell ⟨w.heap.size, m, none⟩ (.bool true) = w2 at *
  clear hW
  generalize hB0 : (List.replicate (m + 1) false).set m true = b00 at *
  clear hB0
  obtain ⟨gn, egn⟩ : ∃ g, g = w.heap.size := ⟨_, rfl⟩
  rw [← egn]
  replace NI := Lib.hid (show NInv w gn m st w2 b00 by rw [egn]; exact NI.out)
  clear egn
  go_loopw [4] (fun more wr => ∃ (b : List Bool) (mm : Bool), more = .bool mm ∧ Hid (mm = false → ClosedB st b) ∧ Hid (NInv w gn m st wr b)) (fun more wr => 2 * openOf wr gn + moreV more)
  case atStart => exact ⟨b00, true, rfl, (fun h => by cases h), NI⟩
  case round =>
    obtain ⟨b0, mm, rfl, HCl, NI⟩ := hrel
    cases mm with
    | false =>
      have HC := Lib.hid (HCl.out rfl)
      clear HCl
      go_wp2
      go_loopw [8, 9] (fun v x wx => ∃ (i : Nat) (oo : Option Addr) (oc : Nat), x = .int .i64 i ∧ v = .slice oo (upto b0 i).length oc ∧ i ≤ m + 1 ∧ Hid (NInv w gn m st wx b0) ∧
          Hid (wx.ownsRow (gn + 1) 3 1 (.slice oo (upto b0 i).length oc) (upto b0 i).length (ints (upto b0 i))) ∧ gn + 1 ≤ wx.heap.size) (fun _ x _ => m + 1 - (intOf x).toNat)
      case atStart => exact ⟨0, none, 0, by go_num, rfl, by omega, NI, World.ownsRow_nil _ _ _ _, own_gt NI.out.own⟩
      case round =>
        obtain ⟨i, oo, oc, rfl, rfl, hi, NI, HO, hgs⟩ := hrel
        by_cases hlt : i < m + 1
        · have hi9 : (i : Int) < (m : Int) + 1 := by omega
          have hul : (upto b0 i).length ≤ i := by unfold upto; have := List.length_filter_le (fun i => b0[i]? == some true) (List.range i); simpa using this
          obtain ⟨v, hv⟩ : ∃ v, b0[i]? = some v := ⟨b0[i]'(by have := NI.out.marks.len; have := HM.out; omega), List.getElem?_eq_getElem _⟩
          obtain ⟨c1, c2⟩ := own_cell NI.out.own hv
          cases v with
          | false =>
            have HU := Lib.hid (show upto b0 (i + 1) = upto b0 i by rw [upto_succ, hv]; rfl)
            clear hv
            go_wp2
            go_roundw
            case rel => exact ⟨i + 1, oo, oc, by go_num, by rw [HU.out], by omega, NI, by rw [HU.out]; exact HO, hgs⟩
            case measure => simp [intOf]; omega
          | true =>
            have HU := Lib.hid (show upto b0 (i + 1) = upto b0 i ++ [i] by rw [upto_succ, hv]; rfl)
            clear hv
            go_wp2_with (at_builtin; refine wpList_append_own _ rfl _ _ 22 rfl (gn + 1) 3 i1 (.int .i64 0) 1 8 Tryd.underlying22 hi1 hz3 hz4 hz5 rfl (by decide) _ _ _ rfl (HO.out.alloc _) ⟨_, 0, none⟩ 1 1 [.int .i64 i] rfl rfl (cell_one_new _ _ _) (by simp [Value.oneCell']) (by unfold maxLen; omega) (by omega) (by simp; omega) ?_; intro v' w5 hown5 hgr5 _; obtain ⟨ao', c', rfl⟩ := ownsRow_form hown5; have NI := Lib.hid ((NI.out.after ((Below.refl _ _).alloc (Nat.le_refl _) _)).grown hgr5 (own_ne HO.out (Nat.lt_succ_self gn)) (Nat.le_trans hgs (by simp)) (own_le HO.out)); have HO := Lib.hid hown5; have hs5 := hgr5.size; simp only [World.size_alloc] at hs5; clear hown5 hgr5)
            go_roundw
            case rel => exact ⟨i + 1, ao', c', by go_num, by rw [HU.out]; simp, by omega, NI, by rw [HU.out]; unfold ints; rw [List.map_append, List.length_append]; exact HO, by omega⟩
            case measure => simp [intOf]; omega
        · have HU := Lib.hid (show upto b0 i = needL st by
            obtain rfl : i = m + 1 := by omega
            rw [← HM.out]; exact upto_all NI.out.marks HC.out)
          go_wp2
          go_ret
          refine ⟨⟨oo, oc, by rw [HU.out]; rfl, ?_⟩, NI.out.bel⟩
          rw [← HU.out]
          exact ownsRow_base HO.out (Nat.le_trans NI.out.gge (Nat.le_succ _))
    | true =>
      clear HCl
      have HO := Lib.hid (openOf_own NI.out.own rfl)
      go_wp2
      go_loopw [4, 5] (fun more x wx => ∃ (b : List Bool) (mm : Bool) (i : Nat), more = .bool mm ∧ x = .int .i64 i ∧ i ≤ m + 1 ∧ Hid (Turn st b0 b mm i 0) ∧ Hid (NInv w gn m st wx b)) (fun _ x _ => m + 1 - (intOf x).toNat)
      case atStart => exact ⟨b0, false, 0, rfl, by go_num, by omega, .inl ⟨rfl, rfl, fun i' k' _ h => by omega, fun k' _ h => by omega⟩, NI⟩
      case round =>
        obtain ⟨b, mm, i, rfl, rfl, hi, HT, NI⟩ := hrel
        by_cases hlt : i < m + 1
        · have hi1 : (i : Int) < (m : Int) + 1 := by omega
          go_wp2
          go_loopw [4, 6] (fun more x wx => ∃ (b : List Bool) (mm : Bool) (k : Nat), more = .bool mm ∧ x = .int .i64 k ∧ k ≤ i ∧ Hid (Turn st b0 b mm i k) ∧ Hid (NInv w gn m st wx b)) (fun _ x _ => i - (intOf x).toNat)
          case atStart => exact ⟨b, mm, 0, rfl, by go_num, by omega, HT, NI⟩
          case round =>
            obtain ⟨b, mm, k, rfl, rfl, hk, HT, NI⟩ := hrel
            by_cases hki : k < i
            · have hil : i < st.length := by have := HM.out; omega
              obtain ⟨b1, o1, rfl, hbl, hc⟩ := HRS.out.at (i * 4) (by rw [HSC.out.len]; omega)
              obtain ⟨sv, vv, s1, s2, s3, s4, hat⟩ := HSC.out.get i hil
              obtain ⟨va, vc, rfl⟩ := ownsRow_form hat.vars
              obtain ⟨scs, hos, hsc⟩ := hat.steps
              obtain ⟨sa, sc, rfl⟩ := ownsRow_form hos
              have hbel := NI.out.bel
              have z0 : wr.cell? ⟨b1, o1 + i * 4, none⟩ = some (.string (S st[i].name)) := (hbel.cell (p := ⟨b1, o1 + i * 4, none⟩) hbl).trans (hc _ _ s1)
              have z1 : wr.cell? ⟨b1, o1 + i * 4 + 1, none⟩ = some (.int .i64 st[i].base) := (hbel.cell (p := ⟨b1, o1 + i * 4 + 1, none⟩) hbl).trans (hc _ _ s2)
              have z2 : wr.cell? ⟨b1, o1 + i * 4 + 2, none⟩ = some (.slice sa st[i].steps.length sc) := (hbel.cell (p := ⟨b1, o1 + i * 4 + 2, none⟩) hbl).trans (hc _ _ s3)
              have z3 : wr.cell? ⟨b1, o1 + i * 4 + 3, none⟩ = some (.slice va st[i].vars.length vc) := (hbel.cell (p := ⟨b1, o1 + i * 4 + 3, none⟩) hbl).trans (hc _ _ s4)
              have HRd := Lib.hid ((RdT.of_own hos).rd.below hbel)
              have HSt := Lib.hid (hsc.keep (KeepT.below hbel) (KeepT.below hbel))
              have hsl : st[i].steps.length ≤ 24 := (HSB.out _ (List.getElem_mem hil)).2
              obtain ⟨x, hx⟩ : ∃ x, x = st[i] := ⟨_, rfl⟩
              rw [← hx] at z0 z1 z2 z3 HSt hsl
              have hbl' : b.length = m + 1 := by have := NI.out.marks.len; have := HM.out; omega
              obtain ⟨vi, hvi⟩ : ∃ v, b[i]? = some v := ⟨b[i]'(by omega), List.getElem?_eq_getElem _⟩
              obtain ⟨vk, hvk⟩ : ∃ v, b[k]? = some v := ⟨b[k]'(by omega), List.getElem?_eq_getElem _⟩
              have HVI := Lib.hid hvi
              have HVK := Lib.hid hvk
              have hk1 : (k : Int) < (m : Int) + 1 := by omega
              obtain ⟨ww, hww⟩ : ∃ v, wantsB x k = v := ⟨_, rfl⟩
              have HW := Lib.hid hww
              have hTs : (vi = true → ww = true → vk = true) → Turn st b0 b mm i (k + 1) := fun hall => by
                rcases HT.out with ⟨h1, h2, h3, h4⟩ | h
                · refine .inl ⟨h1, h2, h3, fun k' hi' hlt' hbi hwk => ?_⟩
                  rcases Nat.lt_or_ge k' k with h | h
                  · exact h4 k' hi' h hbi hwk
                  · obtain rfl : k' = k := by omega
                    rw [hvk, hall (by rw [hvi] at hbi; exact Option.some.inj hbi) (by rw [← hww, hx]; exact hwk)]
                · exact .inr h
              have HTS := Lib.hid hTs
              have HX := Lib.hid hx
              clear hTs hx hat hos hsc s1 s2 s3 s4 hc hbel HRS HSC hvi hvk hww
              by_cases hd : vi = true ∧ ww = true ∧ vk = false
              · obtain ⟨rfl, rfl, rfl⟩ := hd
                have hopen : openB (b.set k true) + 1 = openB b := openB_set (by omega) (Option.some.inj ((List.getElem?_eq_getElem (by omega)).symm.trans HVK.out))
                have HOp := Lib.hid hopen
                have HMk := Lib.hid (NI.out.marks.set hil HVI.out hki (by rw [← HX.out]; exact HW.out))
                have HT2 := Lib.hid (show Turn st b0 (b.set k true) true i (k + 1) by
                  refine .inr ⟨rfl, ?_⟩
                  rcases HT.out with ⟨h1, h2, _, _⟩ | ⟨_, h⟩
                  · rw [h2] at hopen ⊢; omega
                  · omega)
                clear hopen
                go_wp2_with (go_at_call 16; refine (wantsR_any x k sa va sc _ vc scs _ HRd.out HSt.out (by omega)).mono ?_; rintro e4 w4 ⟨rfl, hb4⟩; rw [HW.out]; have NI := Lib.hid (NI.out.after hb4); obtain ⟨c1, c2⟩ := own_cell NI.out.own HVI.out; obtain ⟨c3, c4⟩ := own_cell NI.out.own HVK.out; clear hb4)
                go_roundw
                case rel => exact ⟨b.set k true, true, k + 1, rfl, by go_num, by omega, HT2, Lib.hid (NI.out.mark (by omega) HMk.out)⟩
                case measure => simp [intOf]; omega
              · have HT2 := Lib.hid (HTS.out (fun h1 h2 => by cases vk with | true => rfl | false => exact absurd ⟨h1, h2, rfl⟩ hd))
                have hways : vi = false ∨ (vi = true ∧ ww = false) ∨ (vi = true ∧ ww = true ∧ vk = true) := by cases vi <;> cases ww <;> cases vk <;> simp_all
                clear hd HTS
                rcases hways with rfl | ⟨rfl, rfl⟩ | ⟨rfl, rfl, rfl⟩
                all_goals
                  go_wp2_with (go_at_call 16; refine (wantsR_any x k sa va sc _ vc scs _ HRd.out HSt.out (by omega)).mono ?_; rintro e4 w4 ⟨rfl, hb4⟩; rw [HW.out]; have NI := Lib.hid (NI.out.after hb4); obtain ⟨c1, c2⟩ := own_cell NI.out.own HVI.out; obtain ⟨c3, c4⟩ := own_cell NI.out.own HVK.out; clear hb4)
                  go_roundw
                  (case rel => exact ⟨b, mm, k + 1, rfl, by go_num, by omega, HT2, NI⟩)
                  (case measure => simp [intOf]; omega)
            · have HT' := Lib.hid (show Turn st b0 b mm (i + 1) 0 by
                rcases HT.out with ⟨h1, h2, h3, h4⟩ | h
                · refine .inl ⟨h1, h2, fun i' k' hi' hlt' hk' => ?_, fun k' _ h => by omega⟩
                  rcases Nat.lt_or_ge i' i with h | h
                  · exact h3 i' k' hi' h hk'
                  · obtain rfl : i' = i := by omega
                    exact h4 k' hi' (by omega)
                · exact .inr h)
              go_wp2
              go_roundw
              case rel => exact ⟨b, mm, i + 1, rfl, by go_num, by omega, HT', NI⟩
              case measure => simp [intOf]; omega
        · have HE := Lib.hid (show (mm = false → ClosedB st b) ∧ (mm = true → openB b < openB b0) ∧ (mm = false → b = b0) by
            rcases HT.out with ⟨h1, h2, h3, h4⟩ | ⟨h1, h2⟩
            · exact ⟨fun _ i' k' hi' hk' => h3 i' k' hi' (by have := HM.out; omega) hk', fun h => (by rw [h1] at h; cases h), fun _ => h2⟩
            · exact ⟨fun h => (by rw [h1] at h; cases h), fun _ => h2, fun h => (by rw [h1] at h; cases h)⟩)
          go_wp2
          go_roundw
          case rel => exact ⟨b, mm, rfl, HE.out.1, NI⟩
          case measure =>
            have h1 := openOf_own NI.out.own rfl
            rw [h1, HO.out]
            cases mm with
            | false => rw [HE.out.2.2 rfl]; simp [moreV]
            | true => have := HE.out.2.1 rfl; simp [moreV]; omega
end Go.Proofs.YtflggoddfjmljaaDoor
namespace Go.Proofs.YtflggoddfjmljaaDoor

/-- FROM scratch AS a · FROM scratch -/
def knownT : List UInt8 := [70, 82, 79, 77, 32, 115, 99, 114, 97, 116, 99, 104, 32, 65, 83, 32, 97, 10, 70, 82, 79, 77, 32, 115, 99, 114, 97, 116, 99, 104, 10]
def knownS : List StageG := [⟨[97], -1, [], []⟩, ⟨[], -1, [], []⟩]
theorem known_parse : parseB knownT = .ok knownS := by kernel_rfl
theorem known_need : needL knownS = [1] := by
  have hm : Marks knownS [false, true] := ⟨rfl, rfl, fun i hi => by
    match i, hi with
    | 1, _ => exact Reach.last (st := knownS) (by decide)
    | (k + 2), hi => simp at hi⟩
  have hc : ClosedB knownS [false, true] := fun i k hi hk hb hw => by
    have h2 : i < 2 := hi
    obtain ⟨rfl, rfl⟩ : i = 1 ∧ k = 0 := by omega
    simp [knownS, wantsB] at hw
  rw [← upto_all hm hc]; decide
end Go.Proofs.YtflggoddfjmljaaDoor
