/-
  The document's answer: a COPY's stage and words: the walk.
-/
import Derived.Deep.RegionWith
import Derived.Test.YtflggoddfjmljaaGreatDoorY02
set_option linter.unusedVariables false
set_option linter.unusedSimpArgs false
namespace Go.Proofs.YtflggoddfjmljaaGreatDoor
open Go.RowKit

/-- a word of a line in memory -/
theorem WordsR.at {w : World} {b o : Nat} {ws : List WordG} (h : WordsR w (some ⟨b, o, none⟩) ws) (k : Nat) (hk : k < ws.length) :
    b < w.heap.size ∧ ∃ ao c, w.cell? ⟨b, o + k * 2, none⟩ = some (.slice ao (nth ws k).l.length c) ∧ w.cell? ⟨b, o + k * 2 + 1, none⟩ = some (.int .i64 (nth ws k).at_) ∧ w.ownsRow 0 tAtom 3 (.slice ao (nth ws k).l.length c) (nth ws k).l.length (atms (nth ws k).l) := by
  obtain ⟨cs, h1, h2⟩ := h
  obtain ⟨ao, c, a1, a2, a3⟩ := h2.get k hk
  obtain ⟨b', o', e, hb, hc⟩ := h1.rd.at (k * 2) (by rw [h2.len]; omega)
  simp only [Option.some.injEq, Addr.mk.injEq] at e
  obtain ⟨rfl, rfl, -⟩ := e
  rw [nth_eq hk]
  exact ⟨hb, ao, c, hc _ _ a1, hc _ _ a2, a3⟩
/-- words with names, not too long -/
def GoodW (ws : List WordG) : Prop := ∀ x ∈ ws, GoodA x.l ∧ x.l.length ≤ 2000
theorem GoodW.nth {ws : List WordG} (h : GoodW ws) (k : Nat) (hk : k < ws.length) : GoodA (nth ws k).l ∧ (nth ws k).l.length ≤ 2000 := by
  rw [nth_eq hk]; exact h _ (List.getElem_mem hk)
theorem WordG.text_len (x : WordG) : x.text.length ≤ x.l.length := by
  have := plainA_len x.l []; simpa [WordG.text] using this

/-- what 'taken' answers -/
def takenOut (w' : World) (e : Ending) : Except Flt (Int × List WordG) → Prop
  | .error (f, p) => e = .returned (.tuple #[.int .i64 0, .slice none 0 0, faultV f p])
  | .ok (k, l) => ∃ A c, e = .returned (.tuple #[.int .i64 k, .slice A l.length c, faultV 0 (-1)]) ∧ WordsR w' A l
theorem takenOut_err {w' : World} {e : Ending} {f p : Nat} {r : Except Flt (Int × List WordG)} (h : r = .error (f, p)) (he : e = .returned (.tuple #[.int .i64 0, .slice none 0 0, faultV f p])) : takenOut w' e r := by subst h; exact he
theorem takenOut_ok {w' : World} {e : Ending} {k : Int} {l : List WordG} {r : Except Flt (Int × List WordG)} {A : Option Addr} {n c : Nat} (h : r = .ok (k, l)) (hn : n = l.length) (he : e = .returned (.tuple #[.int .i64 k, .slice A n c, faultV 0 (-1)])) (hw : WordsR w' A l) : takenOut w' e r := by subst h; subst hn; exact ⟨A, c, he, hw⟩

set_option maxRecDepth 100000 in
set_option maxHeartbeats 4000000 in
theorem takenR_any (st : List StageG) (ws : List WordG) (B : Nat) (ao : Option Addr) (b o c d : Nat) (w : World) (hst : StagesR B w st ao c) (hs5 : st.length ≤ 5) (hws : WordsR w (some ⟨b, o, none⟩) ws) (hg : GoodW ws) (hl2 : 3 ≤ ws.length) (hl4 : ws.length ≤ 4) (hd : ws.length ≤ d) (hd2 : d ≤ maxLen) :
    Calls Tryz.prog 26 #[.slice ao st.length c, .slice (some ⟨b, o, none⟩) ws.length d] w fun e w' => takenOut w' e (takenB st ws) ∧ Below w.heap.size w w' := by
  unfold maxLen at hd2
  obtain ⟨scs, hso, hsc⟩ := hst.all
  have hrs := (RdT.of_own hso).rd
  have hnm : ∀ k (h : k < st.length), scs[k * 4]? = some (.string (S st[k].name)) := fun k h => by
    obtain ⟨_, _, h1, _⟩ := hsc.get k h; exact h1
  have hsl := hsc.len
  obtain ⟨hb, a0, c0, m0, m0', r0⟩ := hws.at 0 (by omega)
  obtain ⟨-, a1, c1, m1, m1', r1⟩ := hws.at 1 (by omega)
  obtain ⟨hg1, hgl1⟩ := hg.nth 1 (by omega)
  have htl := (nth ws 1).text_len
  have HW := Lib.hid hws
  have HR := Lib.hid hrs
  have HN := Lib.hid hnm
  have HSL := Lib.hid hsl
  have HR1 := Lib.hid r1
  have HG1 := Lib.hid hg1
  simp only [Nat.zero_mul, Nat.add_zero, Nat.one_mul] at m0 m0' m1 m1'
  have F := Lib.hid (show ∀ wx, Below w.heap.size w wx → wx.cell? ⟨b, o + 1, none⟩ = some (.int .i64 (nth ws 0).at_) ∧ wx.cell? ⟨b, o + 2 + 1, none⟩ = some (.int .i64 (nth ws 1).at_) from fun wx hx => ⟨(hx.cell (p := ⟨b, o + 1, none⟩) hb).trans m0', (hx.cell (p := ⟨b, o + 2 + 1, none⟩) hb).trans m1'⟩)
  clear hst hso hsc hrs hnm hsl hws hg hg1 r0 r1
  have P := Lib.hid (Blk2.new w (.int .i64 0) (.int .i64 0) tFault)
  have hsz : (w.alloc (.cells #[.int .i64 0, .int .i64 0] tFault)).heap.size = w.heap.size + 1 := by simp
  have hbw : Below w.heap.size w (w.alloc (.cells #[.int .i64 0, .int .i64 0] tFault)) := (Below.refl _ _).alloc (Nat.le_refl _) _
  cases hp : [45, 45, 102, 114, 111, 109, 61].isPrefixOf (nth ws 1).text
  · -- no flag
    have HFg := Lib.hid (show flagB (nth ws 1) = false by unfold flagB; show ([45, 45, 102, 114, 111, 109, 61].isPrefixOf (nth ws 1).text && _) = false; rw [hp]; rfl)
    obtain ⟨fl, hfl⟩ : ∃ fl, (nth ws 1).flat = fl := ⟨_, rfl⟩
    have HFL := Lib.hid hfl
    clear hfl
    have HP := Lib.hid hp
    clear hp
    by_cases h4 : ws.length = 4
    · have Y := Lib.hid (show takenB st ws = .error (5, (nth ws 0).at_) by unfold takenB; rw [HFg.out]; simp [h4])
      have h4' : ((ws.length : Int) == 4) = true := by rw [h4]; rfl
      go_enter Tryz.func26, Tryz.ntmps26
      go_wp2_with (first
        | (go_at_call 11; refine (plainR_any (nth ws 1) a1 c1 _ HG1.out (by omega) (ownsRow_below HR1.out hbw)).mono ?_; rintro e2 w2 ⟨rfl, hb2⟩; have hb20 := hbw.trans (hb2.mono (by omega)); have HB12 := Lib.hid hb2; have P2 := Lib.hid (P.out.after hb2); obtain ⟨n0, n1⟩ := F.out w2 hb20; have HB2 := Lib.hid hb20; have hz2 := hb20.size; clear hb2 hb20; rw [HFL.out])
        | (go_at_call 46; refine (begins_any (nth ws 1).text [45, 45, 102, 114, 111, 109, 61] _).mono ?_; rintro e3 w3 ⟨rfl, rfl⟩; rw [HP.out])
        | (go_at_call 9; refine (bad_any 5 (nth ws 0).at_ _).mono ?_; rintro e8 w8 ⟨rfl, hb8⟩; simp only [faultV]; obtain ⟨d0, d1, d2, d3⟩ := (P2.out.after hb8).facts; have HB8 := Lib.hid hb8; clear hb8))
      refine bodyPost_ret (by simp [results, Tryz.results26, go_sem, d0, d1]; try rfl) rfl ?_
      refine ⟨takenOut_err Y.out rfl, ?_⟩
      exact Below.setCell (Below.setCell (HB2.out.trans (HB8.out.mono hz2)) (Nat.le_refl _) _) (Nat.le_refl _) _
    · have Y := Lib.hid (show takenB st ws = .ok (-1, ws.drop 1) by unfold takenB; rw [HFg.out]; simp [h4])
      have h4' : ((ws.length : Int) == 4) = false := by rw [beq_eq_false_iff_ne]; omega
      go_enter Tryz.func26, Tryz.ntmps26
      go_wp2_with (first
        | (go_at_call 11; refine (plainR_any (nth ws 1) a1 c1 _ HG1.out (by omega) (ownsRow_below HR1.out hbw)).mono ?_; rintro e2 w2 ⟨rfl, hb2⟩; have hb20 := hbw.trans (hb2.mono (by omega)); have HB12 := Lib.hid hb2; have P2 := Lib.hid (P.out.after hb2); obtain ⟨n0, n1⟩ := F.out w2 hb20; have HB2 := Lib.hid hb20; have hz2 := hb20.size; clear hb2 hb20; rw [HFL.out])
        | (go_at_call 46; refine (begins_any (nth ws 1).text [45, 45, 102, 114, 111, 109, 61] _).mono ?_; rintro e3 w3 ⟨rfl, rfl⟩; rw [HP.out]))
      go_region_with (go_at_call 15; refine (fine_any _).mono ?_; rintro e8 w8 ⟨rfl, hb8⟩; simp only [faultV]; obtain ⟨d0, d1, d2, d3⟩ := (P2.out.drew.after hb8).facts; have HB8 : Hid (Below w2.heap.size w2 w8) := Lib.hid ((Below.refl _ _).drew.trans hb8); clear hb8)
      all_goals
        go_wp2
        have T8 : BlkT w8 w.heap.size tFault := ((BlkT.new w #[.int .i64 0, .int .i64 0] tFault).after HB12.out).after HB8.out
        refine bodyPost_ret (by simp [results, Tryz.results26, go_sem, d0, d1]; try rfl) rfl ?_
        refine ⟨takenOut_ok Y.out (by rw [List.length_drop]; try omega) rfl ?_, Below.setCell (Below.setCell (HB2.out.trans (HB8.out.mono hz2)) (Nat.le_refl _) _) (Nat.le_refl _) _⟩
        exact (((HW.out.drop 1).keep (KeepT.below (HB2.out.trans (HB8.out.mono hz2))) (KeepT.below (HB2.out.trans (HB8.out.mono hz2)))).keep (KeepT.two T8 (by decide) _ _) (KeepT.two T8 (by decide) _ _))
  · cases hfl : (nth ws 1).flat
    · have HFg := Lib.hid (show flagB (nth ws 1) = false by unfold flagB; rw [hfl, Bool.and_false])
      have HFL := Lib.hid hfl
      clear hfl
      have HP := Lib.hid hp
      clear hp
      by_cases h4 : ws.length = 4
      · have Y := Lib.hid (show takenB st ws = .error (5, (nth ws 0).at_) by unfold takenB; rw [HFg.out]; simp [h4])
        have h4' : ((ws.length : Int) == 4) = true := by rw [h4]; rfl
        go_enter Tryz.func26, Tryz.ntmps26
        go_wp2_with (first
          | (go_at_call 11; refine (plainR_any (nth ws 1) a1 c1 _ HG1.out (by omega) (ownsRow_below HR1.out hbw)).mono ?_; rintro e2 w2 ⟨rfl, hb2⟩; have hb20 := hbw.trans (hb2.mono (by omega)); have HB12 := Lib.hid hb2; have P2 := Lib.hid (P.out.after hb2); obtain ⟨n0, n1⟩ := F.out w2 hb20; have HB2 := Lib.hid hb20; have hz2 := hb20.size; clear hb2 hb20; rw [HFL.out])
          | (go_at_call 46; refine (begins_any (nth ws 1).text [45, 45, 102, 114, 111, 109, 61] _).mono ?_; rintro e3 w3 ⟨rfl, rfl⟩; rw [HP.out])
          | (go_at_call 9; refine (bad_any 5 (nth ws 0).at_ _).mono ?_; rintro e8 w8 ⟨rfl, hb8⟩; simp only [faultV]; obtain ⟨d0, d1, d2, d3⟩ := (P2.out.after hb8).facts; have HB8 := Lib.hid hb8; clear hb8))
        refine bodyPost_ret (by simp [results, Tryz.results26, go_sem, d0, d1]; try rfl) rfl ?_
        refine ⟨takenOut_err Y.out rfl, ?_⟩
        exact Below.setCell (Below.setCell (HB2.out.trans (HB8.out.mono hz2)) (Nat.le_refl _) _) (Nat.le_refl _) _
      · have Y := Lib.hid (show takenB st ws = .ok (-1, ws.drop 1) by unfold takenB; rw [HFg.out]; simp [h4])
        have h4' : ((ws.length : Int) == 4) = false := by rw [beq_eq_false_iff_ne]; omega
        go_enter Tryz.func26, Tryz.ntmps26
        go_wp2_with (first
          | (go_at_call 11; refine (plainR_any (nth ws 1) a1 c1 _ HG1.out (by omega) (ownsRow_below HR1.out hbw)).mono ?_; rintro e2 w2 ⟨rfl, hb2⟩; have hb20 := hbw.trans (hb2.mono (by omega)); have HB12 := Lib.hid hb2; have P2 := Lib.hid (P.out.after hb2); obtain ⟨n0, n1⟩ := F.out w2 hb20; have HB2 := Lib.hid hb20; have hz2 := hb20.size; clear hb2 hb20; rw [HFL.out])
          | (go_at_call 46; refine (begins_any (nth ws 1).text [45, 45, 102, 114, 111, 109, 61] _).mono ?_; rintro e3 w3 ⟨rfl, rfl⟩; rw [HP.out]))
        go_region_with (go_at_call 15; refine (fine_any _).mono ?_; rintro e8 w8 ⟨rfl, hb8⟩; simp only [faultV]; obtain ⟨d0, d1, d2, d3⟩ := (P2.out.drew.after hb8).facts; have HB8 : Hid (Below w2.heap.size w2 w8) := Lib.hid ((Below.refl _ _).drew.trans hb8); clear hb8)
        all_goals
          go_wp2
          have T8 : BlkT w8 w.heap.size tFault := ((BlkT.new w #[.int .i64 0, .int .i64 0] tFault).after HB12.out).after HB8.out
          refine bodyPost_ret (by simp [results, Tryz.results26, go_sem, d0, d1]; try rfl) rfl ?_
          refine ⟨takenOut_ok Y.out (by rw [List.length_drop]; try omega) rfl ?_, Below.setCell (Below.setCell (HB2.out.trans (HB8.out.mono hz2)) (Nat.le_refl _) _) (Nat.le_refl _) _⟩
          exact (((HW.out.drop 1).keep (KeepT.below (HB2.out.trans (HB8.out.mono hz2))) (KeepT.below (HB2.out.trans (HB8.out.mono hz2)))).keep (KeepT.two T8 (by decide) _ _) (KeepT.two T8 (by decide) _ _))
    · have HFg := Lib.hid (show flagB (nth ws 1) = true by unfold flagB; show ([45, 45, 102, 114, 111, 109, 61].isPrefixOf (nth ws 1).text && _) = true; rw [hp, hfl]; rfl)
      have HFL := Lib.hid hfl
      have h7 : 7 ≤ (nth ws 1).text.length := by
        have := (List.isPrefixOf_iff_prefix.1 hp).length_le
        simpa using this
      have HP := Lib.hid hp
      clear hfl hp
      by_cases h4 : ws.length = 4
      · have h4' : ((ws.length : Int) == 4) = true := by rw [h4]; rfl
        cases hs : stageB ((nth ws 1).text.drop 7)
        · have Y := Lib.hid (show takenB st ws = .error (5, (nth ws 1).at_) by unfold takenB; rw [HFg.out]; simp [h4, hs])
          have HS := Lib.hid hs
          clear hs
          go_enter Tryz.func26, Tryz.ntmps26
          go_wp2_with (first
            | (go_at_call 11; refine (plainR_any (nth ws 1) a1 c1 _ HG1.out (by omega) (ownsRow_below HR1.out hbw)).mono ?_; rintro e2 w2 ⟨rfl, hb2⟩; have hb20 := hbw.trans (hb2.mono (by omega)); have HB12 := Lib.hid hb2; have P2 := Lib.hid (P.out.after hb2); obtain ⟨n0, n1⟩ := F.out w2 hb20; have HB2 := Lib.hid hb20; have hz2 := hb20.size; clear hb2 hb20; rw [HFL.out])
            | (go_at_call 46; refine (begins_any (nth ws 1).text [45, 45, 102, 114, 111, 109, 61] _).mono ?_; rintro e3 w3 ⟨rfl, rfl⟩; rw [HP.out])
            | (go_at_call 24; refine (stageNameR_any ((nth ws 1).text.drop 7) _ (by simp only [List.length_drop]; omega)).mono ?_; rintro e4 w4 ⟨rfl, rfl⟩; rw [HS.out])
            | (go_at_call 9; refine (bad_any 5 (nth ws 1).at_ _).mono ?_; rintro e8 w8 ⟨rfl, hb8⟩; simp only [faultV]; obtain ⟨d0, d1, d2, d3⟩ := (P2.out.after hb8).facts; have HB8 := Lib.hid hb8; clear hb8))
          refine bodyPost_ret (by simp [results, Tryz.results26, go_sem, d0, d1]; try rfl) rfl ?_
          refine ⟨takenOut_err Y.out rfl, ?_⟩
          exact Below.setCell (Below.setCell (HB2.out.trans (HB8.out.mono hz2)) (Nat.le_refl _) _) (Nat.le_refl _) _
        · have HS := Lib.hid hs
          obtain ⟨k, hk⟩ : ∃ k, calledB st ((nth ws 1).text.drop 7) = k := ⟨_, rfl⟩
          have HC := Lib.hid hk
          by_cases hk0 : k < 0
          · have Y := Lib.hid (show takenB st ws = .error (6, (nth ws 1).at_) by unfold takenB; rw [HFg.out, hk]; simp [h4, hs, hk0])
            clear hs hk
            go_enter Tryz.func26, Tryz.ntmps26
            go_wp2_with (first
              | (go_at_call 11; refine (plainR_any (nth ws 1) a1 c1 _ HG1.out (by omega) (ownsRow_below HR1.out hbw)).mono ?_; rintro e2 w2 ⟨rfl, hb2⟩; have hb20 := hbw.trans (hb2.mono (by omega)); have HB12 := Lib.hid hb2; have P2 := Lib.hid (P.out.after hb2); obtain ⟨n0, n1⟩ := F.out w2 hb20; have HB2 := Lib.hid hb20; have hz2 := hb20.size; clear hb2 hb20; rw [HFL.out])
              | (go_at_call 46; refine (begins_any (nth ws 1).text [45, 45, 102, 114, 111, 109, 61] _).mono ?_; rintro e3 w3 ⟨rfl, rfl⟩; rw [HP.out])
              | (go_at_call 24; refine (stageNameR_any ((nth ws 1).text.drop 7) _ (by simp only [List.length_drop]; omega)).mono ?_; rintro e4 w4 ⟨rfl, rfl⟩; rw [HS.out])
              | (go_at_call 25; refine (calledR_any st ((nth ws 1).text.drop 7) ao c scs _ (by omega) (HR.out.below HB2.out) HSL.out HN.out).mono ?_; rintro e5 w5 ⟨rfl, rfl⟩; rw [HC.out])
              | (go_at_call 9; refine (bad_any 6 (nth ws 1).at_ _).mono ?_; rintro e8 w8 ⟨rfl, hb8⟩; simp only [faultV]; obtain ⟨d0, d1, d2, d3⟩ := (P2.out.after hb8).facts; have HB8 := Lib.hid hb8; clear hb8))
            refine bodyPost_ret (by simp [results, Tryz.results26, go_sem, d0, d1]; try rfl) rfl ?_
            refine ⟨takenOut_err Y.out rfl, ?_⟩
            exact Below.setCell (Below.setCell (HB2.out.trans (HB8.out.mono hz2)) (Nat.le_refl _) _) (Nat.le_refl _) _
          · by_cases hkl : k = (st.length : Int) - 1
            · have Y := Lib.hid (show takenB st ws = .error (6, (nth ws 1).at_) by unfold takenB; rw [HFg.out, hk]; simp [h4, hs, hkl])
              have hkl' : (k == (st.length : Int) - 1) = true := by rw [beq_iff_eq]; exact hkl
              have HK := Lib.hid hkl
              clear hs hk hkl
              go_enter Tryz.func26, Tryz.ntmps26
              go_wp2_with (first
                | (go_at_call 11; refine (plainR_any (nth ws 1) a1 c1 _ HG1.out (by omega) (ownsRow_below HR1.out hbw)).mono ?_; rintro e2 w2 ⟨rfl, hb2⟩; have hb20 := hbw.trans (hb2.mono (by omega)); have HB12 := Lib.hid hb2; have P2 := Lib.hid (P.out.after hb2); obtain ⟨n0, n1⟩ := F.out w2 hb20; have HB2 := Lib.hid hb20; have hz2 := hb20.size; clear hb2 hb20; rw [HFL.out])
                | (go_at_call 46; refine (begins_any (nth ws 1).text [45, 45, 102, 114, 111, 109, 61] _).mono ?_; rintro e3 w3 ⟨rfl, rfl⟩; rw [HP.out])
                | (go_at_call 24; refine (stageNameR_any ((nth ws 1).text.drop 7) _ (by simp only [List.length_drop]; omega)).mono ?_; rintro e4 w4 ⟨rfl, rfl⟩; rw [HS.out])
                | (go_at_call 25; refine (calledR_any st ((nth ws 1).text.drop 7) ao c scs _ (by omega) (HR.out.below HB2.out) HSL.out HN.out).mono ?_; rintro e5 w5 ⟨rfl, rfl⟩; rw [HC.out])
                | (go_at_call 9; refine (bad_any 6 (nth ws 1).at_ _).mono ?_; rintro e8 w8 ⟨rfl, hb8⟩; simp only [faultV]; obtain ⟨d0, d1, d2, d3⟩ := (P2.out.after hb8).facts; have HB8 := Lib.hid hb8; clear hb8))
              refine bodyPost_ret (by simp [results, Tryz.results26, go_sem, d0, d1]; try rfl) rfl ?_
              refine ⟨takenOut_err Y.out rfl, ?_⟩
              exact Below.setCell (Below.setCell (HB2.out.trans (HB8.out.mono hz2)) (Nat.le_refl _) _) (Nat.le_refl _) _
            · have Y := Lib.hid (show takenB st ws = .ok (k, ws.drop 2) by unfold takenB; rw [HFg.out, hk]; simp [h4, hs, hkl, hk0])
              have hkl' : (k == (st.length : Int) - 1) = false := by rw [beq_eq_false_iff_ne]; exact hkl
              clear hs hk hkl
              go_enter Tryz.func26, Tryz.ntmps26
              go_wp2_with (first
                | (go_at_call 11; refine (plainR_any (nth ws 1) a1 c1 _ HG1.out (by omega) (ownsRow_below HR1.out hbw)).mono ?_; rintro e2 w2 ⟨rfl, hb2⟩; have hb20 := hbw.trans (hb2.mono (by omega)); have HB12 := Lib.hid hb2; have P2 := Lib.hid (P.out.after hb2); obtain ⟨n0, n1⟩ := F.out w2 hb20; have HB2 := Lib.hid hb20; have hz2 := hb20.size; clear hb2 hb20; rw [HFL.out])
                | (go_at_call 46; refine (begins_any (nth ws 1).text [45, 45, 102, 114, 111, 109, 61] _).mono ?_; rintro e3 w3 ⟨rfl, rfl⟩; rw [HP.out])
                | (go_at_call 24; refine (stageNameR_any ((nth ws 1).text.drop 7) _ (by simp only [List.length_drop]; omega)).mono ?_; rintro e4 w4 ⟨rfl, rfl⟩; rw [HS.out])
                | (go_at_call 25; refine (calledR_any st ((nth ws 1).text.drop 7) ao c scs _ (by omega) (HR.out.below HB2.out) HSL.out HN.out).mono ?_; rintro e5 w5 ⟨rfl, rfl⟩; rw [HC.out]))
              go_region_with (go_at_call 15; refine (fine_any _).mono ?_; rintro e8 w8 ⟨rfl, hb8⟩; simp only [faultV]; obtain ⟨d0, d1, d2, d3⟩ := (P2.out.drew.after hb8).facts; have HB8 : Hid (Below w2.heap.size w2 w8) := Lib.hid ((Below.refl _ _).drew.trans hb8); clear hb8)
              all_goals
                go_wp2
                have T8 : BlkT w8 w.heap.size tFault := ((BlkT.new w #[.int .i64 0, .int .i64 0] tFault).after HB12.out).after HB8.out
                refine bodyPost_ret (by simp [results, Tryz.results26, go_sem, d0, d1]; try rfl) rfl ?_
                refine ⟨takenOut_ok Y.out (by rw [List.length_drop]; try omega) rfl ?_, Below.setCell (Below.setCell (HB2.out.trans (HB8.out.mono hz2)) (Nat.le_refl _) _) (Nat.le_refl _) _⟩
                exact (((HW.out.drop 2).keep (KeepT.below (HB2.out.trans (HB8.out.mono hz2))) (KeepT.below (HB2.out.trans (HB8.out.mono hz2)))).keep (KeepT.two T8 (by decide) _ _) (KeepT.two T8 (by decide) _ _))
      · have Y := Lib.hid (show takenB st ws = .error (5, (nth ws 0).at_) by unfold takenB; rw [HFg.out]; simp [h4])
        have h4' : ((ws.length : Int) == 4) = false := by rw [beq_eq_false_iff_ne]; omega
        go_enter Tryz.func26, Tryz.ntmps26
        go_wp2_with (first
          | (go_at_call 11; refine (plainR_any (nth ws 1) a1 c1 _ HG1.out (by omega) (ownsRow_below HR1.out hbw)).mono ?_; rintro e2 w2 ⟨rfl, hb2⟩; have hb20 := hbw.trans (hb2.mono (by omega)); have HB12 := Lib.hid hb2; have P2 := Lib.hid (P.out.after hb2); obtain ⟨n0, n1⟩ := F.out w2 hb20; have HB2 := Lib.hid hb20; have hz2 := hb20.size; clear hb2 hb20; rw [HFL.out])
          | (go_at_call 46; refine (begins_any (nth ws 1).text [45, 45, 102, 114, 111, 109, 61] _).mono ?_; rintro e3 w3 ⟨rfl, rfl⟩; rw [HP.out])
          | (go_at_call 9; refine (bad_any 5 (nth ws 0).at_ _).mono ?_; rintro e8 w8 ⟨rfl, hb8⟩; simp only [faultV]; obtain ⟨d0, d1, d2, d3⟩ := (P2.out.after hb8).facts; have HB8 := Lib.hid hb8; clear hb8))
        refine bodyPost_ret (by simp [results, Tryz.results26, go_sem, d0, d1]; try rfl) rfl ?_
        refine ⟨takenOut_err Y.out rfl, ?_⟩
        exact Below.setCell (Below.setCell (HB2.out.trans (HB8.out.mono hz2)) (Nat.le_refl _) _) (Nat.le_refl _) _
end Go.Proofs.YtflggoddfjmljaaGreatDoor
