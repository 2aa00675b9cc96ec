/-
  The document's answer: a line that is no FROM: the walk: MKDIR.
  The document's answer: a line that is no FROM: the walk: COPY.
  The document's answer: a line that is no FROM, whatever it is; what an instruction leaves of the bounds.
-/
import Derived.Deep.RegionWith
import Derived.Deep.QuietTactic
import Derived.BigRegion
import Derived.StillTailTactics
import Derived.Deep.RegionLaw
import Derived.Deep.AppendLies
import Derived.Test.YtflggoddfjmljaaGreatDoorY05
import Derived.Test.YtflggoddfjmljaaGreatDoorY21
import Derived.Test.YtflggoddfjmljaaGreatDoorY23
set_option linter.unusedVariables false
set_option linter.unusedSimpArgs false
namespace Go.Proofs.YtflggoddfjmljaaGreatDoor
open Go.RowKit

theorem mode_neg {m : Int} {v : Bool} (hm : 0 ≤ m ↔ v = true) (h : v = false) : m < 0 := by
  subst h
  have : ¬ 0 ≤ m := fun h => by cases hm.1 h
  omega
set_option maxRecDepth 100000 in
set_option maxHeartbeats 6000000 in
theorem stepR_m (init : List StageG) (y : StageG) (op : List UInt8) (ws : List WordG) (B H gb c b o d : Nat) (cs0 : List Value) (sv vv : Value) (scs : List Value) (w : World) (hL : LastR B H w init y gb c cs0 sv vv scs) (hi4 : init.length ≤ 4) (hvl : y.vars.length ≤ 100) (hsl : y.steps.length ≤ 100)
    (hws : WordsR w (some ⟨b, o, none⟩) ws) (hg : GoodW ws) (hl2 : 2 ≤ ws.length) (hl4 : ws.length ≤ 4) (hd : ws.length ≤ d) (hd2 : d ≤ maxLen) (hop : op = wMKDIR) :
    Calls Tryz.prog 14 #[.slice (some ⟨gb, 0, none⟩) (init.length + 1) c, .string (S op), .slice (some ⟨b, o, none⟩) ws.length d] w fun e w' => stagesOut B w' e (stepB (init ++ [y]) op ws) ∧ Below B w w' ∧ KeepX w w' := by
  unfold maxLen at hd2
  obtain ⟨i1, hi1, hz3, hz4, hz5⟩ := info_parts (show (Tryz.prog.info? 9).map (fun i => (i.zero, i.size, i.bytes)) = some (some (.string ByteArray.empty), 1, 16) by kernel_rfl)
  obtain ⟨i2, hi2, hz6, hz7, hz8⟩ := info_parts (show (Tryz.prog.info? 58).map (fun i => (i.zero, i.size, i.bytes)) = some (some (.agg #[.string ByteArray.empty, .slice none 0 0, .int .i64 0, .int .i64 0]), 4, 56) by kernel_rfl)
  have hBw : B ≤ w.heap.size := Nat.le_trans hL.hB hL.hH
  obtain ⟨va, vc, rfl⟩ := ownsRow_form hL.vars
  obtain ⟨sa, sc, rfl⟩ := ownsRow_form hL.steps
  obtain ⟨lt0, q2, q3, -, -⟩ := rowFacts hL.own hL.ini.len
  obtain ⟨hb, a0, c0, m0, m0', r0⟩ := hws.at 0 (by omega)
  obtain ⟨-, a1, c1, m1, m1', r1⟩ := hws.at 1 (by omega)
  have HG1 := Lib.hid (hg.nth 1 (by omega))
  have HW := Lib.hid hws
  have HR1 := Lib.hid r1
  have HG := Lib.hid hg
  have HL := Lib.hid hL
  have htl1 := (nth ws 1).text_len
  have hm1 : (init.length : Int) < (init.length : Int) + 1 := by omega
  have hm2 : (0 : Int) ≤ (init.length : Int) := by omega
  have hm3 : init.length < init.length + 1 := by omega
  simp only [Nat.zero_mul, Nat.add_zero, Nat.one_mul] at m0 m0' m1 m1'
  have F := Lib.hid (show ∀ wx, Below w.heap.size w wx → wx.cell? ⟨b, o + 1, none⟩ = some (.int .i64 (nth ws 0).at_) ∧ wx.cell? ⟨b, o + 2, none⟩ = some (.slice a1 (nth ws 1).l.length c1) ∧ wx.cell? ⟨b, o + 2 + 1, none⟩ = some (.int .i64 (nth ws 1).at_) ∧ wx.cell? ⟨gb, init.length * 4 + 3, none⟩ = some (.slice va y.vars.length vc) ∧ b < wx.heap.size ∧ gb < wx.heap.size from fun wx hx => ⟨(hx.cell (p := ⟨b, o + 1, none⟩) hb).trans m0', (hx.cell (p := ⟨b, o + 2, none⟩) hb).trans m1, (hx.cell (p := ⟨b, o + 2 + 1, none⟩) hb).trans m1', (hx.cell (p := ⟨gb, init.length * 4 + 3, none⟩) lt0).trans q3, Nat.lt_of_lt_of_le hb hx.size, Nat.lt_of_lt_of_le lt0 hx.size⟩)
  have HW1 := Lib.hid ((HW.out.drop 1).keep (KeepT.refl _ _) (KeepT.refl _ _))
  simp only [Nat.one_mul] at HW1
  have SI := Lib.hid (SInv.new w op _ (ws.drop 1) (d - 1) (-1) (nth ws 0).at_ HW1.out)
  have HB := Lib.hid (show Below w.heap.size w ((w.alloc (.cells #[.int .i64 0, .int .i64 0] tFault)).alloc (.cells #[.string (S op), .slice (some ⟨b, o + 2, none⟩) (ws.drop 1).length (d - 1), .int .i64 (-1), .int .i64 (nth ws 0).at_] tStep)) from ((Below.refl _ _).alloc (Nat.le_refl _) _).alloc (by simp) _)
  rw [List.length_drop] at HB
  have SI := Lib.hid SI.out.drew
  have HB := Lib.hid HB.out.drew
  have hlen1 : (ws.drop 1).length = ws.length - 1 := List.length_drop
  rw [hlen1] at SI
  have LL := Lib.hid hlen1
  clear hL hws hg r0 r1 hlen1
  have hc1 : (op == [67, 79, 80, 89]) = false := by rw [hop]; decide
  have hc2 : (op == [77, 75, 68, 73, 82]) = true := by rw [hop]; decide
  have hc3 : (op == [69, 78, 86]) = false := by rw [hop]; decide
  have HNE3 := Lib.hid (show op ≠ wENV by rw [hop]; decide)
  have hLK := looksB_mkdir (st := init ++ [y]) (op := op) (ws := ws) hop
  clear hop
  by_cases h3 : ws.length = 3
  · have h3' : ((ws.length : Int) == 3) = true := by rw [h3]; rfl
    obtain ⟨-, a2, c2, m2, m2', r2⟩ := HW.out.at 2 (by omega)
    have HR2 := Lib.hid r2
    have HG2 := Lib.hid (HG.out.nth 2 (by omega))
    have htl2 := (nth ws 2).text_len
    have hle3 : 3 ≤ ws.length := by omega
    simp only [show 2 * 2 = 4 from rfl] at m2 m2'
    have F2 := Lib.hid (show ∀ wx, Below w.heap.size w wx → wx.cell? ⟨b, o + 4, none⟩ = some (.slice a2 (nth ws 2).l.length c2) ∧ wx.cell? ⟨b, o + 4 + 1, none⟩ = some (.int .i64 (nth ws 2).at_) from fun wx hx => ⟨(hx.cell (p := ⟨b, o + 4, none⟩) hb).trans m2, (hx.cell (p := ⟨b, o + 4 + 1, none⟩) hb).trans m2'⟩)
    clear r2
    obtain ⟨iv, hiv⟩ : ∃ iv, modeB (nth ws 2).text = iv := ⟨_, rfl⟩
    have HIV := Lib.hid hiv
    obtain ⟨fl, hfl⟩ : ∃ fl, (nth ws 2).flat = fl := ⟨_, rfl⟩
    have HFL := Lib.hid hfl
    by_cases hok : fl = false ∨ iv = false
    · have Y := Lib.hid (show stepB (init ++ [y]) op ws = .error (5, (nth ws 2).at_) by unfold stepB; rw [hLK, hfl, hiv, if_pos ⟨h3, hok⟩])
      have hways : fl = false ∨ (fl = true ∧ iv = false) := by cases fl <;> simp_all
      clear hLK hfl hiv hok h3
      rcases hways with rfl | ⟨rfl, rfl⟩
      · go_enter Tryz.func14, Tryz.ntmps14
        go_wp2_with fail
        go_region
        generalize hW : ((w.alloc (.cells #[.int .i64 0, .int .i64 0] tFault)).alloc (.cells #[.string (S op), .slice (some ⟨b, o + 2, none⟩) (ws.length - 1) (d - 1), .int .i64 (-1), .int .i64 (nth ws 0).at_] tStep)).drew = wz at *
        clear hW
        obtain ⟨n0, n1, n2, n3, n4, n5⟩ := F.out _ HB.out
        obtain ⟨n6, n7⟩ := F2.out _ HB.out
        go_wp2_with (first
          | (go_at_call 11; refine (plainR_any _ _ _ _ (by first | exact HG1.out.1 | exact HG2.out.1) (by first | (have := HG1.out.2; omega) | (have := HG2.out.2; omega)) (ownsRow_below (by first | exact HR1.out | exact HR2.out) HB.out)).mono ?_; rintro e2 w2 ⟨rfl, hb2⟩; have SI := Lib.hid (SI.out.after hb2); have HB := Lib.hid (HB.out.trans (hb2.mono HB.out.size)); have hzz := HB.out.size; obtain ⟨n0, n1, n2, n3, n4, n5⟩ := F.out _ HB.out; clear hb2; obtain ⟨n6, n7⟩ := F2.out _ HB.out; rw [HFL.out])
          | (go_at_call 27; refine (modeR_any (nth ws 2).text _ (by have := HG2.out.2; omega)).mono ?_; rintro e4 w4 ⟨⟨m, rfl, hm⟩, rfl⟩; clear hm)
          | (go_at_call 9; refine (bad_any _ _ _).mono ?_; rintro e8 w8 ⟨rfl, hb2⟩; simp only [faultV]; have SI := Lib.hid (SI.out.after hb2); have HB := Lib.hid (HB.out.trans (hb2.mono HB.out.size)); have hzz := HB.out.size; obtain ⟨n0, n1, n2, n3, n4, n5⟩ := F.out _ HB.out; clear hb2; obtain ⟨d0, d1, d2, d3⟩ := SI.out.b7.facts))
        refine bodyPost_ret (by simp [results, Tryz.results14, go_sem, d0, d1]; try rfl) rfl ?_
        exact ⟨stagesOut_err Y.out rfl, two_new (st := init) (ao := none) (c := c) hBw (HB.out.mono hBw) (KeepX.below HB.out) (Nat.le_refl _) _ _⟩
      · go_enter Tryz.func14, Tryz.ntmps14
        go_wp2_with fail
        go_region
        generalize hW : ((w.alloc (.cells #[.int .i64 0, .int .i64 0] tFault)).alloc (.cells #[.string (S op), .slice (some ⟨b, o + 2, none⟩) (ws.length - 1) (d - 1), .int .i64 (-1), .int .i64 (nth ws 0).at_] tStep)).drew = wz at *
        clear hW
        obtain ⟨n0, n1, n2, n3, n4, n5⟩ := F.out _ HB.out
        obtain ⟨n6, n7⟩ := F2.out _ HB.out
        go_wp2_with (first
          | (go_at_call 11; refine (plainR_any _ _ _ _ (by first | exact HG1.out.1 | exact HG2.out.1) (by first | (have := HG1.out.2; omega) | (have := HG2.out.2; omega)) (ownsRow_below (by first | exact HR1.out | exact HR2.out) HB.out)).mono ?_; rintro e2 w2 ⟨rfl, hb2⟩; have SI := Lib.hid (SI.out.after hb2); have HB := Lib.hid (HB.out.trans (hb2.mono HB.out.size)); have hzz := HB.out.size; obtain ⟨n0, n1, n2, n3, n4, n5⟩ := F.out _ HB.out; clear hb2; obtain ⟨n6, n7⟩ := F2.out _ HB.out; rw [HFL.out])
          | (go_at_call 27; refine (modeR_any (nth ws 2).text _ (by have := HG2.out.2; omega)).mono ?_; rintro e4 w4 ⟨⟨m, rfl, hm⟩, rfl⟩; have hm' : m < 0 := mode_neg hm HIV.out; clear hm)
          | (go_at_call 9; refine (bad_any _ _ _).mono ?_; rintro e8 w8 ⟨rfl, hb2⟩; simp only [faultV]; have SI := Lib.hid (SI.out.after hb2); have HB := Lib.hid (HB.out.trans (hb2.mono HB.out.size)); have hzz := HB.out.size; obtain ⟨n0, n1, n2, n3, n4, n5⟩ := F.out _ HB.out; clear hb2; obtain ⟨d0, d1, d2, d3⟩ := SI.out.b7.facts))
        refine bodyPost_ret (by simp [results, Tryz.results14, go_sem, d0, d1]; try rfl) rfl ?_
        exact ⟨stagesOut_err Y.out rfl, two_new (st := init) (ao := none) (c := c) hBw (HB.out.mono hBw) (KeepX.below HB.out) (Nat.le_refl _) _ _⟩
    · obtain ⟨rfl, rfl⟩ : fl = true ∧ iv = true := by cases fl <;> cases iv <;> simp_all
      have HLK := Lib.hid (show looksB (init ++ [y]) op ws = .ok (-1, ws.drop 1) by rw [hLK, hfl, hiv, if_neg (by simp)])
      clear hLK hfl hiv hok h3
      go_enter Tryz.func14, Tryz.ntmps14
      go_wp2_with fail
      go_region
      generalize hW : ((w.alloc (.cells #[.int .i64 0, .int .i64 0] tFault)).alloc (.cells #[.string (S op), .slice (some ⟨b, o + 2, none⟩) (ws.length - 1) (d - 1), .int .i64 (-1), .int .i64 (nth ws 0).at_] tStep)).drew = wz at *
      clear hW
      obtain ⟨n0, n1, n2, n3, n4, n5⟩ := F.out _ HB.out
      obtain ⟨n6, n7⟩ := F2.out _ HB.out
      go_wp2_with (first
        | (go_at_call 11; refine (plainR_any _ _ _ _ (by first | exact HG1.out.1 | exact HG2.out.1) (by first | (have := HG1.out.2; omega) | (have := HG2.out.2; omega)) (ownsRow_below (by first | exact HR1.out | exact HR2.out) HB.out)).mono ?_; rintro e2 w2 ⟨rfl, hb2⟩; have SI := Lib.hid (SI.out.after hb2); have HB := Lib.hid (HB.out.trans (hb2.mono HB.out.size)); have hzz := HB.out.size; obtain ⟨n0, n1, n2, n3, n4, n5⟩ := F.out _ HB.out; clear hb2; obtain ⟨n6, n7⟩ := F2.out _ HB.out; rw [HFL.out])
        | (go_at_call 27; refine (modeR_any (nth ws 2).text _ (by have := HG2.out.2; omega)).mono ?_; rintro e4 w4 ⟨⟨m, rfl, hm⟩, rfl⟩; have hm' : 0 ≤ m := hm.2 HIV.out; clear hm))
      have LN : EqN (ws.drop 1).length (ws.length - 1) := LL.out
      have HLL := Lib.hid (show (ws.drop 1).length ≤ 4 from by have := LL.out; omega)
      have HGl := Lib.hid (show GoodW (ws.drop 1) from HG.out.drop 1)
      obtain ⟨x1, x2, x3, x4, x5, x6, x7, x8⟩ := (SI.out.b9n LN.out).facts
      obtain ⟨n0, n1, n2, n3, n4, n5⟩ := F.out _ HB.out
      have hzz := HB.out.size
      have lt9 := (SI.out.b9n LN.out).lt
      cases hu : unsetB y.vars (ws.drop 1) with
      | some p =>
        have HU := Lib.hid (unsetV_some hu)
        have Y := Lib.hid (show stepB (init ++ [y]) op ws = .error (7, p) by unfold stepB; rw [HLK.out]; simp only; rw [lastVars_last, hu])
        clear hu
        go_still_tail 7, (by kernel_rfl)
        go_wp2_with (first
          | (go_at_call 29; refine (unsetR_n _ _ LN.out y.vars _ _ _ _ _ (by have := HLL.out; omega) (by omega) HGl.out SI.out.drew.hw (HL.out.after HB.out.drew).varsRd).mono ?_; rintro e6 w6 ⟨rfl, hb6⟩; rw [HU.out]; have SI := Lib.hid (SI.out.drew.after hb6); have HB := Lib.hid (HB.out.drew.trans (hb6.mono HB.out.size)); have hzz := HB.out.size; obtain ⟨n0, n1, n2, n3, n4, n5⟩ := F.out _ HB.out; clear hb6)
          | (go_at_call 9; refine (bad_any _ _ _).mono ?_; rintro e8 w8 ⟨rfl, hb2⟩; simp only [faultV]; have SI := Lib.hid (SI.out.after hb2); have HB := Lib.hid (HB.out.trans (hb2.mono HB.out.size)); have hzz := HB.out.size; obtain ⟨n0, n1, n2, n3, n4, n5⟩ := F.out _ HB.out; clear hb2; obtain ⟨d0, d1, d2, d3⟩ := SI.out.b7.facts))
        refine bodyPost_ret (by simp [results, Tryz.results14, go_sem, d0, d1]; try rfl) rfl ?_
        exact ⟨stagesOut_err Y.out rfl, two_new (st := init) (ao := none) (c := c) hBw (HB.out.mono hBw) (KeepX.below HB.out) (Nat.le_refl _) _ _⟩
      | none =>
        have HU := Lib.hid (unsetV_none hu)
        have Y := Lib.hid (show stepB (init ++ [y]) op ws = .ok (init ++ [⟨y.name, y.base, y.steps ++ [⟨op, ws.drop 1, (-1), (nth ws 0).at_⟩], y.vars⟩]) by unfold stepB; rw [HLK.out]; simp only; rw [lastVars_last, hu]; simp only; rw [pushB_last, if_neg HNE3.out, List.append_nil])
        clear hu
        go_still_tail 7, (by kernel_rfl)
        go_wp2_with (go_at_call 29; refine (unsetR_n _ _ LN.out y.vars _ _ _ _ _ (by have := HLL.out; omega) (by omega) HGl.out SI.out.drew.hw (HL.out.after HB.out.drew).varsRd).mono ?_; rintro e6 w6 ⟨rfl, hb6⟩; rw [HU.out]; have SI := Lib.hid (SI.out.drew.after hb6); have HB := Lib.hid (HB.out.drew.trans (hb6.mono HB.out.size)); have hzz := HB.out.size; obtain ⟨n0, n1, n2, n3, n4, n5⟩ := F.out _ HB.out; clear hb6)
        have LR := Lib.hid (HL.out.after HB.out)
        have hlowv : ∀ k, (Value.slice va y.vars.length vc).ownBlock = some k → k < w.heap.size := own_lt HL.out.vars
        have hlows : ∀ k, (Value.slice sa y.steps.length sc).ownBlock = some k → k < w.heap.size := own_lt HL.out.steps
        have HLv := Lib.hid hlowv
        have HLs := Lib.hid hlows
        clear hlowv hlows
        obtain ⟨x1, x2, x3, x4, x5, x6, x7, x8⟩ := (SI.out.b9n LN.out).facts
        have lt9 := (SI.out.b9n LN.out).lt
        obtain ⟨z1, z2, z3, z4, z5⟩ := rowFacts LR.out.own LR.out.ini.len
        go_wp2_with fail
        have KX := Lib.hid (KeepX.below HB.out)
        have BX := Lib.hid (HB.out.mono hBw)
        go_region_law (refine step_append_lies _ (by rfl) (.tmp 137) (.tmp 139) 53 (by rfl) H tStep i2 (.agg #[.string ByteArray.empty, .slice none 0 0, .int .i64 0, .int .i64 0]) 4 56 Tryz.underlying53 hi2 hz6 hz7 hz8 (by rfl) (by decide) (.slice sa y.steps.length sc) y.steps.length scs (by rfl) (LR.out.drew.alloc _).steps ⟨_, 0, none⟩ 1 1 [.string (S op), .slice (some ⟨b, o + 2, none⟩) (ws.length - 1) (d - 1), .int .i64 (-1), .int .i64 (nth ws 0).at_] (by rfl) (by rfl) (cells4_at _ _ _ _ _ _ _ (by simp)) (by simp [Value.oneCell']) (by decide) (by unfold maxLen; omega) (by omega) (by simp; have := LR.out.hH; omega) _ (by rfl) ?_; intro g' c2 w10 hown10 hgr10 _ _; have PS := pushStepAll (LR.out.drew.alloc _) (SI.out.drew.alloc _) _ LN.out hgr10 hown10 HLs.out lt0; obtain ⟨⟨scs2, PL, PI, PX, PB⟩, y1, y2, y3, y4, y5⟩ := PS; have PL := Lib.hid PL; have PI := Lib.hid PI; have KX := Lib.hid (KX.out.trans ((KeepX.below ((Below.refl _ _).drew.alloc (Nat.le_refl _) _)).trans PX)); have BX := Lib.hid (BX.out.trans ((((Below.refl _ _).drew.alloc (Nat.le_refl _) _).mono (Nat.le_trans hBw BX.out.size)).trans PB)); clear hown10 hgr10 PX PB)
        all_goals
          go_wp2_with (go_at_call 15; refine (fine_any _).mono ?_; rintro e8 w8 ⟨rfl, hb8⟩; simp only [faultV]; obtain ⟨d0, d1, d2, d3⟩ := (PI.out.after hb8).b7.facts; have HB8 := Lib.hid hb8; clear hb8)
          refine bodyPost_ret (by simp [results, Tryz.results14, go_sem, d0, d1]; try rfl) rfl ?_
          exact ⟨stagesOut_ok Y.out (by simp) rfl ((PL.out.after HB8.out).stages.two (PI.out.after HB8.out).t7 _ _), two_new (st := init) (ao := none) (c := c) hBw (BX.out.trans (HB8.out.mono (Nat.le_trans hBw BX.out.size))) (KX.out.trans (KeepX.below HB8.out)) (Nat.le_refl _) _ _⟩
  · have h3' : ((ws.length : Int) == 3) = false := by rw [beq_eq_false_iff_ne]; omega
    have HLK := Lib.hid (show looksB (init ++ [y]) op ws = .ok (-1, ws.drop 1) by rw [hLK, if_neg (fun h => h3 h.1)])
    clear hLK h3
    go_enter Tryz.func14, Tryz.ntmps14
    go_wp2_with fail
    go_region
    generalize hW : ((w.alloc (.cells #[.int .i64 0, .int .i64 0] tFault)).alloc (.cells #[.string (S op), .slice (some ⟨b, o + 2, none⟩) (ws.length - 1) (d - 1), .int .i64 (-1), .int .i64 (nth ws 0).at_] tStep)).drew = wz at *
    clear hW
    obtain ⟨n0, n1, n2, n3, n4, n5⟩ := F.out _ HB.out
    go_wp2_with fail
    have LN : EqN (ws.drop 1).length (ws.length - 1) := LL.out
    have HLL := Lib.hid (show (ws.drop 1).length ≤ 4 from by have := LL.out; omega)
    have HGl := Lib.hid (show GoodW (ws.drop 1) from HG.out.drop 1)
    obtain ⟨x1, x2, x3, x4, x5, x6, x7, x8⟩ := (SI.out.b9n LN.out).facts
    obtain ⟨n0, n1, n2, n3, n4, n5⟩ := F.out _ HB.out
    have hzz := HB.out.size
    have lt9 := (SI.out.b9n LN.out).lt
    cases hu : unsetB y.vars (ws.drop 1) with
    | some p =>
      have HU := Lib.hid (unsetV_some hu)
      have Y := Lib.hid (show stepB (init ++ [y]) op ws = .error (7, p) by unfold stepB; rw [HLK.out]; simp only; rw [lastVars_last, hu])
      clear hu
      go_still_tail 7, (by kernel_rfl)
      go_wp2_with (first
        | (go_at_call 29; refine (unsetR_n _ _ LN.out y.vars _ _ _ _ _ (by have := HLL.out; omega) (by omega) HGl.out SI.out.drew.hw (HL.out.after HB.out.drew).varsRd).mono ?_; rintro e6 w6 ⟨rfl, hb6⟩; rw [HU.out]; have SI := Lib.hid (SI.out.drew.after hb6); have HB := Lib.hid (HB.out.drew.trans (hb6.mono HB.out.size)); have hzz := HB.out.size; obtain ⟨n0, n1, n2, n3, n4, n5⟩ := F.out _ HB.out; clear hb6)
        | (go_at_call 9; refine (bad_any _ _ _).mono ?_; rintro e8 w8 ⟨rfl, hb2⟩; simp only [faultV]; have SI := Lib.hid (SI.out.after hb2); have HB := Lib.hid (HB.out.trans (hb2.mono HB.out.size)); have hzz := HB.out.size; obtain ⟨n0, n1, n2, n3, n4, n5⟩ := F.out _ HB.out; clear hb2; obtain ⟨d0, d1, d2, d3⟩ := SI.out.b7.facts))
      refine bodyPost_ret (by simp [results, Tryz.results14, go_sem, d0, d1]; try rfl) rfl ?_
      exact ⟨stagesOut_err Y.out rfl, two_new (st := init) (ao := none) (c := c) hBw (HB.out.mono hBw) (KeepX.below HB.out) (Nat.le_refl _) _ _⟩
    | none =>
      have HU := Lib.hid (unsetV_none hu)
      have Y := Lib.hid (show stepB (init ++ [y]) op ws = .ok (init ++ [⟨y.name, y.base, y.steps ++ [⟨op, ws.drop 1, (-1), (nth ws 0).at_⟩], y.vars⟩]) by unfold stepB; rw [HLK.out]; simp only; rw [lastVars_last, hu]; simp only; rw [pushB_last, if_neg HNE3.out, List.append_nil])
      clear hu
      go_still_tail 7, (by kernel_rfl)
      go_wp2_with (go_at_call 29; refine (unsetR_n _ _ LN.out y.vars _ _ _ _ _ (by have := HLL.out; omega) (by omega) HGl.out SI.out.drew.hw (HL.out.after HB.out.drew).varsRd).mono ?_; rintro e6 w6 ⟨rfl, hb6⟩; rw [HU.out]; have SI := Lib.hid (SI.out.drew.after hb6); have HB := Lib.hid (HB.out.drew.trans (hb6.mono HB.out.size)); have hzz := HB.out.size; obtain ⟨n0, n1, n2, n3, n4, n5⟩ := F.out _ HB.out; clear hb6)
      have LR := Lib.hid (HL.out.after HB.out)
      have hlowv : ∀ k, (Value.slice va y.vars.length vc).ownBlock = some k → k < w.heap.size := own_lt HL.out.vars
      have hlows : ∀ k, (Value.slice sa y.steps.length sc).ownBlock = some k → k < w.heap.size := own_lt HL.out.steps
      have HLv := Lib.hid hlowv
      have HLs := Lib.hid hlows
      clear hlowv hlows
      obtain ⟨x1, x2, x3, x4, x5, x6, x7, x8⟩ := (SI.out.b9n LN.out).facts
      have lt9 := (SI.out.b9n LN.out).lt
      obtain ⟨z1, z2, z3, z4, z5⟩ := rowFacts LR.out.own LR.out.ini.len
      go_wp2_with fail
      have KX := Lib.hid (KeepX.below HB.out)
      have BX := Lib.hid (HB.out.mono hBw)
      go_region_law (refine step_append_lies _ (by rfl) (.tmp 137) (.tmp 139) 53 (by rfl) H tStep i2 (.agg #[.string ByteArray.empty, .slice none 0 0, .int .i64 0, .int .i64 0]) 4 56 Tryz.underlying53 hi2 hz6 hz7 hz8 (by rfl) (by decide) (.slice sa y.steps.length sc) y.steps.length scs (by rfl) (LR.out.drew.alloc _).steps ⟨_, 0, none⟩ 1 1 [.string (S op), .slice (some ⟨b, o + 2, none⟩) (ws.length - 1) (d - 1), .int .i64 (-1), .int .i64 (nth ws 0).at_] (by rfl) (by rfl) (cells4_at _ _ _ _ _ _ _ (by simp)) (by simp [Value.oneCell']) (by decide) (by unfold maxLen; omega) (by omega) (by simp; have := LR.out.hH; omega) _ (by rfl) ?_; intro g' c2 w10 hown10 hgr10 _ _; have PS := pushStepAll (LR.out.drew.alloc _) (SI.out.drew.alloc _) _ LN.out hgr10 hown10 HLs.out lt0; obtain ⟨⟨scs2, PL, PI, PX, PB⟩, y1, y2, y3, y4, y5⟩ := PS; have PL := Lib.hid PL; have PI := Lib.hid PI; have KX := Lib.hid (KX.out.trans ((KeepX.below ((Below.refl _ _).drew.alloc (Nat.le_refl _) _)).trans PX)); have BX := Lib.hid (BX.out.trans ((((Below.refl _ _).drew.alloc (Nat.le_refl _) _).mono (Nat.le_trans hBw BX.out.size)).trans PB)); clear hown10 hgr10 PX PB)
      all_goals
        go_wp2_with (go_at_call 15; refine (fine_any _).mono ?_; rintro e8 w8 ⟨rfl, hb8⟩; simp only [faultV]; obtain ⟨d0, d1, d2, d3⟩ := (PI.out.after hb8).b7.facts; have HB8 := Lib.hid hb8; clear hb8)
        refine bodyPost_ret (by simp [results, Tryz.results14, go_sem, d0, d1]; try rfl) rfl ?_
        exact ⟨stagesOut_ok Y.out (by simp) rfl ((PL.out.after HB8.out).stages.two (PI.out.after HB8.out).t7 _ _), two_new (st := init) (ao := none) (c := c) hBw (BX.out.trans (HB8.out.mono (Nat.le_trans hBw BX.out.size))) (KX.out.trans (KeepX.below HB8.out)) (Nat.le_refl _) _ _⟩
end Go.Proofs.YtflggoddfjmljaaGreatDoor
namespace Go.Proofs.YtflggoddfjmljaaGreatDoor
open Go.RowKit

set_option maxRecDepth 100000 in
set_option maxHeartbeats 6000000 in
theorem stepR_c (init : List StageG) (y : StageG) (op : List UInt8) (ws : List WordG) (B H gb c b o d : Nat) (cs0 : List Value) (sv vv : Value) (scs : List Value) (w : World) (hL : LastR B H w init y gb c cs0 sv vv scs) (hi4 : init.length ≤ 4) (hvl : y.vars.length ≤ 100) (hsl : y.steps.length ≤ 100)
    (hws : WordsR w (some ⟨b, o, none⟩) ws) (hg : GoodW ws) (hl2 : 2 ≤ ws.length) (hl4 : ws.length ≤ 4) (hd : ws.length ≤ d) (hd2 : d ≤ maxLen) (hop : op = wCOPY) (hl3 : 3 ≤ ws.length) :
    Calls Tryz.prog 14 #[.slice (some ⟨gb, 0, none⟩) (init.length + 1) c, .string (S op), .slice (some ⟨b, o, none⟩) ws.length d] w fun e w' => stagesOut B w' e (stepB (init ++ [y]) op ws) ∧ Below B w w' ∧ KeepX w w' := by
  unfold maxLen at hd2
  obtain ⟨i1, hi1, hz3, hz4, hz5⟩ := info_parts (show (Tryz.prog.info? 9).map (fun i => (i.zero, i.size, i.bytes)) = some (some (.string ByteArray.empty), 1, 16) by kernel_rfl)
  obtain ⟨i2, hi2, hz6, hz7, hz8⟩ := info_parts (show (Tryz.prog.info? 58).map (fun i => (i.zero, i.size, i.bytes)) = some (some (.agg #[.string ByteArray.empty, .slice none 0 0, .int .i64 0, .int .i64 0]), 4, 56) by kernel_rfl)
  have hBw : B ≤ w.heap.size := Nat.le_trans hL.hB hL.hH
  obtain ⟨va, vc, rfl⟩ := ownsRow_form hL.vars
  obtain ⟨sa, sc, rfl⟩ := ownsRow_form hL.steps
  obtain ⟨lt0, q2, q3, -, -⟩ := rowFacts hL.own hL.ini.len
  obtain ⟨hb, a0, c0, m0, m0', r0⟩ := hws.at 0 (by omega)
  obtain ⟨-, a1, c1, m1, m1', r1⟩ := hws.at 1 (by omega)
  have HG1 := Lib.hid (hg.nth 1 (by omega))
  have HW := Lib.hid hws
  have HR1 := Lib.hid r1
  have HG := Lib.hid hg
  have HL := Lib.hid hL
  have htl1 := (nth ws 1).text_len
  have hm1 : (init.length : Int) < (init.length : Int) + 1 := by omega
  have hm2 : (0 : Int) ≤ (init.length : Int) := by omega
  have hm3 : init.length < init.length + 1 := by omega
  simp only [Nat.zero_mul, Nat.add_zero, Nat.one_mul] at m0 m0' m1 m1'
  have F := Lib.hid (show ∀ wx, Below w.heap.size w wx → wx.cell? ⟨b, o + 1, none⟩ = some (.int .i64 (nth ws 0).at_) ∧ wx.cell? ⟨b, o + 2, none⟩ = some (.slice a1 (nth ws 1).l.length c1) ∧ wx.cell? ⟨b, o + 2 + 1, none⟩ = some (.int .i64 (nth ws 1).at_) ∧ wx.cell? ⟨gb, init.length * 4 + 3, none⟩ = some (.slice va y.vars.length vc) ∧ b < wx.heap.size ∧ gb < wx.heap.size from fun wx hx => ⟨(hx.cell (p := ⟨b, o + 1, none⟩) hb).trans m0', (hx.cell (p := ⟨b, o + 2, none⟩) hb).trans m1, (hx.cell (p := ⟨b, o + 2 + 1, none⟩) hb).trans m1', (hx.cell (p := ⟨gb, init.length * 4 + 3, none⟩) lt0).trans q3, Nat.lt_of_lt_of_le hb hx.size, Nat.lt_of_lt_of_le lt0 hx.size⟩)
  have HW1 := Lib.hid ((HW.out.drop 1).keep (KeepT.refl _ _) (KeepT.refl _ _))
  simp only [Nat.one_mul] at HW1
  have SI := Lib.hid (SInv.new w op _ (ws.drop 1) (d - 1) (-1) (nth ws 0).at_ HW1.out)
  have HB := Lib.hid (show Below w.heap.size w ((w.alloc (.cells #[.int .i64 0, .int .i64 0] tFault)).alloc (.cells #[.string (S op), .slice (some ⟨b, o + 2, none⟩) (ws.drop 1).length (d - 1), .int .i64 (-1), .int .i64 (nth ws 0).at_] tStep)) from ((Below.refl _ _).alloc (Nat.le_refl _) _).alloc (by simp) _)
  rw [List.length_drop] at HB
  have SI := Lib.hid SI.out.drew
  have HB := Lib.hid HB.out.drew
  have hlen1 : (ws.drop 1).length = ws.length - 1 := List.length_drop
  rw [hlen1] at SI
  have LL := Lib.hid hlen1
  clear hL hws hg r0 r1 hlen1
  have hc1 : (op == [67, 79, 80, 89]) = true := by rw [hop]; decide
  have hc2 : (op == [77, 75, 68, 73, 82]) = false := by rw [hop]; decide
  have hc3 : (op == [69, 78, 86]) = false := by rw [hop]; decide
  have HNE3 := Lib.hid (show op ≠ wENV by rw [hop]; decide)
  have hLK := looksB_copy (st := init ++ [y]) (op := op) (ws := ws) hop
  clear hop
  have hlst : (init ++ [y]).length = init.length + 1 := by simp
  have HLS := Lib.hid hlst
  clear hlst
  cases ht : takenB (init ++ [y]) ws with
  | error fp =>
    obtain ⟨f, p⟩ := fp
    have Y := Lib.hid (show stepB (init ++ [y]) op ws = .error (f, p) by unfold stepB; rw [hLK, ht])
    have HT := Lib.hid ht
    have hf : ((f : Int) != 0) = true := by
      rcases takenB_err ht with rfl | rfl <;> decide
    clear hLK ht
    go_enter Tryz.func14, Tryz.ntmps14
    go_wp2_with fail
    go_region
    generalize hW : ((w.alloc (.cells #[.int .i64 0, .int .i64 0] tFault)).alloc (.cells #[.string (S op), .slice (some ⟨b, o + 2, none⟩) (ws.length - 1) (d - 1), .int .i64 (-1), .int .i64 (nth ws 0).at_] tStep)).drew = wz at *
    clear hW
    obtain ⟨n0, n1, n2, n3, n4, n5⟩ := F.out _ HB.out
    go_wp2_with (first
      | (go_at_call 26; refine (takenR_n (init ++ [y]) (init.length + 1) HLS.out ws B _ b o c d _ (HL.out.after HB.out).stages (by have := HLS.out; omega) (HW.out.keep (KeepT.below HB.out) (KeepT.below HB.out)) HG.out hl3 hl4 hd (by unfold maxLen; omega)).mono ?_; rintro e5 w5 ⟨he5, hb2⟩; rw [HT.out] at he5; obtain rfl := he5; simp only [faultV]; have SI := Lib.hid (SI.out.after hb2); have HB := Lib.hid (HB.out.trans (hb2.mono HB.out.size)); have hzz := HB.out.size; obtain ⟨n0, n1, n2, n3, n4, n5⟩ := F.out _ HB.out; clear hb2; obtain ⟨d0, d1, d2, d3⟩ := SI.out.b7.facts; have lt7 := SI.out.b7.lt))
    go_region
    all_goals
      go_wp2
      refine bodyPost_ret (by simp [results, Tryz.results14, go_sem, d0, d1, lt7]; try rfl) rfl ?_
      have TN := two_new (st := init) (ao := none) (c := c) hBw (HB.out.mono hBw) (KeepX.below HB.out) (Nat.le_refl _) (.int .i64 f) (.int .i64 p)
      have hs5 := HB.out.size
      exact ⟨stagesOut_err Y.out rfl, (TN.1.alloc (by simp only [World.size_setCell]; omega) _).drew, TN.2.trans (KeepX.below ((Below.refl _ _).alloc (Nat.le_refl _) _).drew)⟩
  | ok kl =>
    obtain ⟨k, l⟩ := kl
    have HLK := Lib.hid (show looksB (init ++ [y]) op ws = .ok (k, l) by rw [hLK, ht])
    have HT := Lib.hid ht
    have HLL4 := Lib.hid (show l.length ≤ 4 by rcases takenB_words ht with rfl | rfl <;> simp only [List.length_drop] <;> omega)
    have HGL4 := Lib.hid (show GoodW l by rcases takenB_words ht with rfl | rfl <;> exact HG.out.drop _)
    clear hLK ht
    go_enter Tryz.func14, Tryz.ntmps14
    go_wp2_with fail
    go_region
    generalize hW : ((w.alloc (.cells #[.int .i64 0, .int .i64 0] tFault)).alloc (.cells #[.string (S op), .slice (some ⟨b, o + 2, none⟩) (ws.length - 1) (d - 1), .int .i64 (-1), .int .i64 (nth ws 0).at_] tStep)).drew = wz at *
    clear hW
    obtain ⟨n0, n1, n2, n3, n4, n5⟩ := F.out _ HB.out
    go_wp2_with (first
      | (go_at_call 26; refine (takenR_n (init ++ [y]) (init.length + 1) HLS.out ws B _ b o c d _ (HL.out.after HB.out).stages (by have := HLS.out; omega) (HW.out.keep (KeepT.below HB.out) (KeepT.below HB.out)) HG.out hl3 hl4 hd (by unfold maxLen; omega)).mono ?_; rintro e5 w5 ⟨he5, hb2⟩; rw [HT.out] at he5; obtain ⟨A5, c5, rfl, hw5⟩ := he5; simp only [faultV]; have HW5 := Lib.hid hw5; have SI := Lib.hid (SI.out.after hb2); have HB := Lib.hid (HB.out.trans (hb2.mono HB.out.size)); have hzz := HB.out.size; obtain ⟨n0, n1, n2, n3, n4, n5⟩ := F.out _ HB.out; clear hb2; obtain ⟨d0, d1, d2, d3⟩ := SI.out.b7.facts; have lt7 := SI.out.b7.lt; have lt99 := SI.out.b9.lt; obtain ⟨x1, x2, x3, x4, x5, x6, x7, x8⟩ := SI.out.b9.facts; clear hw5))
    have SI := Lib.hid ((SI.out.took (c' := c5) k HW5.out).alloc (.cells #[.int .i64 0, .int .i64 (-1)] tFault))
    have HB := Lib.hid (((HB.out.setCell (p := ⟨w.heap.size + 1, 2, none⟩) (Nat.le_succ _) (.int .i64 k)).setCell (p := ⟨w.heap.size + 1, 1, none⟩) (Nat.le_succ _) (.slice A5 l.length c5)).alloc (by simp only [World.size_setCell]; exact HB.out.size) (.cells #[.int .i64 0, .int .i64 (-1)] tFault))
    clear d0 d1 d2 d3 x1 x2 x3 x4 x5 x6 x7 x8 n0 n1 n2 n3 n4 n5 lt7 lt99 HW5
    generalize hW5 : ((w5.setCell ⟨w.heap.size + 1, 2, none⟩ (.int .i64 k)).setCell ⟨w.heap.size + 1, 1, none⟩ (.slice A5 l.length c5)).alloc (.cells #[.int .i64 0, .int .i64 (-1)] tFault) = wz5 at *
    clear hW5
    have LN : EqN (l).length (l.length) := rfl
    have HLL := Lib.hid (show (l).length ≤ 4 from by have := HLL4.out; omega)
    have HGl := Lib.hid (show GoodW (l) from HGL4.out)
    obtain ⟨x1, x2, x3, x4, x5, x6, x7, x8⟩ := (SI.out.b9n LN.out).facts
    obtain ⟨n0, n1, n2, n3, n4, n5⟩ := F.out _ HB.out
    have hzz := HB.out.size
    have lt9 := (SI.out.b9n LN.out).lt
    cases hu : unsetB y.vars (l) with
    | some p =>
      have HU := Lib.hid (unsetV_some hu)
      have Y := Lib.hid (show stepB (init ++ [y]) op ws = .error (7, p) by unfold stepB; rw [HLK.out]; simp only; rw [lastVars_last, hu])
      clear hu
      go_still_tail 7, (by kernel_rfl)
      go_wp2_with (first
        | (go_at_call 29; refine (unsetR_n _ _ LN.out y.vars _ _ _ _ _ (by have := HLL.out; omega) (by omega) HGl.out SI.out.drew.hw (HL.out.after HB.out.drew).varsRd).mono ?_; rintro e6 w6 ⟨rfl, hb6⟩; rw [HU.out]; have SI := Lib.hid (SI.out.drew.after hb6); have HB := Lib.hid (HB.out.drew.trans (hb6.mono HB.out.size)); have hzz := HB.out.size; obtain ⟨n0, n1, n2, n3, n4, n5⟩ := F.out _ HB.out; clear hb6)
        | (go_at_call 9; refine (bad_any _ _ _).mono ?_; rintro e8 w8 ⟨rfl, hb2⟩; simp only [faultV]; have SI := Lib.hid (SI.out.after hb2); have HB := Lib.hid (HB.out.trans (hb2.mono HB.out.size)); have hzz := HB.out.size; obtain ⟨n0, n1, n2, n3, n4, n5⟩ := F.out _ HB.out; clear hb2; obtain ⟨d0, d1, d2, d3⟩ := SI.out.b7.facts))
      refine bodyPost_ret (by simp [results, Tryz.results14, go_sem, d0, d1]; try rfl) rfl ?_
      exact ⟨stagesOut_err Y.out rfl, two_new (st := init) (ao := none) (c := c) hBw (HB.out.mono hBw) (KeepX.below HB.out) (Nat.le_refl _) _ _⟩
    | none =>
      have HU := Lib.hid (unsetV_none hu)
      have Y := Lib.hid (show stepB (init ++ [y]) op ws = .ok (init ++ [⟨y.name, y.base, y.steps ++ [⟨op, l, k, (nth ws 0).at_⟩], y.vars⟩]) by unfold stepB; rw [HLK.out]; simp only; rw [lastVars_last, hu]; simp only; rw [pushB_last, if_neg HNE3.out, List.append_nil])
      clear hu
      go_still_tail 7, (by kernel_rfl)
      go_wp2_with (go_at_call 29; refine (unsetR_n _ _ LN.out y.vars _ _ _ _ _ (by have := HLL.out; omega) (by omega) HGl.out SI.out.drew.hw (HL.out.after HB.out.drew).varsRd).mono ?_; rintro e6 w6 ⟨rfl, hb6⟩; rw [HU.out]; have SI := Lib.hid (SI.out.drew.after hb6); have HB := Lib.hid (HB.out.drew.trans (hb6.mono HB.out.size)); have hzz := HB.out.size; obtain ⟨n0, n1, n2, n3, n4, n5⟩ := F.out _ HB.out; clear hb6)
      have LR := Lib.hid (HL.out.after HB.out)
      have hlowv : ∀ k, (Value.slice va y.vars.length vc).ownBlock = some k → k < w.heap.size := own_lt HL.out.vars
      have hlows : ∀ k, (Value.slice sa y.steps.length sc).ownBlock = some k → k < w.heap.size := own_lt HL.out.steps
      have HLv := Lib.hid hlowv
      have HLs := Lib.hid hlows
      clear hlowv hlows
      obtain ⟨x1, x2, x3, x4, x5, x6, x7, x8⟩ := (SI.out.b9n LN.out).facts
      have lt9 := (SI.out.b9n LN.out).lt
      obtain ⟨z1, z2, z3, z4, z5⟩ := rowFacts LR.out.own LR.out.ini.len
      go_wp2_with fail
      have KX := Lib.hid (KeepX.below HB.out)
      have BX := Lib.hid (HB.out.mono hBw)
      go_region_law (refine step_append_lies _ (by rfl) (.tmp 137) (.tmp 139) 53 (by rfl) H tStep i2 (.agg #[.string ByteArray.empty, .slice none 0 0, .int .i64 0, .int .i64 0]) 4 56 Tryz.underlying53 hi2 hz6 hz7 hz8 (by rfl) (by decide) (.slice sa y.steps.length sc) y.steps.length scs (by rfl) (LR.out.drew.alloc _).steps ⟨_, 0, none⟩ 1 1 [.string (S op), .slice A5 (l.length) (c5), .int .i64 k, .int .i64 (nth ws 0).at_] (by rfl) (by rfl) (cells4_at _ _ _ _ _ _ _ (by simp)) (by simp [Value.oneCell']) (by decide) (by unfold maxLen; omega) (by omega) (by simp; have := LR.out.hH; omega) _ (by rfl) ?_; intro g' c2 w10 hown10 hgr10 _ _; have PS := pushStepAll (LR.out.drew.alloc _) (SI.out.drew.alloc _) _ LN.out hgr10 hown10 HLs.out lt0; obtain ⟨⟨scs2, PL, PI, PX, PB⟩, y1, y2, y3, y4, y5⟩ := PS; have PL := Lib.hid PL; have PI := Lib.hid PI; have KX := Lib.hid (KX.out.trans ((KeepX.below ((Below.refl _ _).drew.alloc (Nat.le_refl _) _)).trans PX)); have BX := Lib.hid (BX.out.trans ((((Below.refl _ _).drew.alloc (Nat.le_refl _) _).mono (Nat.le_trans hBw BX.out.size)).trans PB)); clear hown10 hgr10 PX PB)
      all_goals
        go_wp2_with (go_at_call 15; refine (fine_any _).mono ?_; rintro e8 w8 ⟨rfl, hb8⟩; simp only [faultV]; obtain ⟨d0, d1, d2, d3⟩ := (PI.out.after hb8).b7.facts; have HB8 := Lib.hid hb8; clear hb8)
        refine bodyPost_ret (by simp [results, Tryz.results14, go_sem, d0, d1]; try rfl) rfl ?_
        exact ⟨stagesOut_ok Y.out (by simp) rfl ((PL.out.after HB8.out).stages.two (PI.out.after HB8.out).t7 _ _), two_new (st := init) (ao := none) (c := c) hBw (BX.out.trans (HB8.out.mono (Nat.le_trans hBw BX.out.size))) (KX.out.trans (KeepX.below HB8.out)) (Nat.le_refl _) _ _⟩
end Go.Proofs.YtflggoddfjmljaaGreatDoor
namespace Go.Proofs.YtflggoddfjmljaaGreatDoor
open Go.RowKit

theorem stepR_any (st : List StageG) (op : List UInt8) (ws : List WordG) (B n b o c d : Nat) (ao : Option Addr) (w : World) (hst : StagesR B w st ao c) (hne : st ≠ []) (hs5 : st.length ≤ 5) (hn : n ≤ 100) (hb : StB n st)
    (hws : WordsR w (some ⟨b, o, none⟩) ws) (hg : GoodW ws) (hl2 : 2 ≤ ws.length) (hl4 : ws.length ≤ 4) (hd : ws.length ≤ d) (hd2 : d ≤ maxLen) (hc : op = wCOPY → 3 ≤ ws.length) :
    Calls Tryz.prog 14 #[.slice ao st.length c, .string (S op), .slice (some ⟨b, o, none⟩) ws.length d] w fun e w' => stagesOut B w' e (stepB st op ws) ∧ Below B w w' ∧ KeepX w w' := by
  obtain ⟨H, init, y, gb, cs0, sv, vv, scs, rfl, rfl, hL⟩ := hst.last hne
  have hy := hb y (by simp)
  have hi : init.length ≤ 4 := by simp at hs5; omega
  have e : (init ++ [y]).length = init.length + 1 := by simp
  rw [e]
  by_cases h1 : op = wCOPY
  · exact stepR_c init y op ws B H gb c b o d cs0 sv vv scs w hL hi (by omega) (by omega) hws hg hl2 hl4 hd hd2 h1 (hc h1)
  · by_cases h2 : op = wMKDIR
    · exact stepR_m init y op ws B H gb c b o d cs0 sv vv scs w hL hi (by omega) (by omega) hws hg hl2 hl4 hd hd2 h2
    · by_cases h3 : op = wENV
      · exact stepR_e init y op ws B H gb c b o d cs0 sv vv scs w hL hi (by omega) (by omega) hws hg hl2 hl4 hd hd2 h3
      · exact stepR_o init y op ws B H gb c b o d cs0 sv vv scs w hL hi (by omega) (by omega) hws hg hl2 hl4 hd hd2 h1 h2 h3
end Go.Proofs.YtflggoddfjmljaaGreatDoor
