import Derived.Test.YtikdblkfjchjbaaGreatDoorY24
set_option linter.unusedVariables false
set_option linter.unusedSimpArgs false
set_option maxHeartbeats 16000000
set_option maxRecDepth 100000
namespace Go.Proofs.YtikdblkfjchjbaaGreatDoor
open Go.RowKit
theorem q25 (st : List StageG) (l : List WordG) (B gp gs b o lc p c kk : Nat) (kd k0 : Int) (ao : Option Addr) (w : World) (h5 : st.length ≤ 5) (hv5 : ∀ x ∈ st, x.vars.length ≤ 100) (hp : PB w gp ao st.length c kk) (hst : FStagesR B w st ao c) (hB : B ≤ w.heap.size) (hgp : B ≤ gp)
 (hs : SBlk w gs kd (some ⟨b, o, none⟩) l.length lc k0 p) (hw : FWordsR w (some ⟨b, o, none⟩) l) (hg : GoodW l) (hl1 : 1 ≤ l.length) (hl3 : l.length ≤ 3) (hlc : l.length ≤ lc) (hlm : lc ≤ maxLen) (hl : l.length = 3) (ha : (nth l 1).text = wAS) (hsb : qb8 (nth l 2).text = true) :
 Calls Tryz.prog 123 #[.pointer (some ⟨gp, 0, none⟩), .pointer (some ⟨gs, 0, none⟩)] w fun e w' => qlp B gp gs kk l.length lc p kd k0 (some ⟨b, o, none⟩) w w' e (qcw st l p) ∧ Below B w w' ∧ KeepY w w' := by
 obtain ⟨⟨s0, s1, s2, s3⟩, s4, s5, s6⟩ := hs.facts;have HS := q4z hs;have HPB := q4z hp;have HST := q4z hst;obtain ⟨cs, hso, hsc⟩ := hst.all;have HSO := q4z hso;have HSC := q4z hsc;have HV5 := q4z hv5;obtain ⟨fa, fc, hb, m1, m2, ho⟩ := hw.one (k := 0) (by omega);rw [Nat.zero_mul, Nat.add_zero] at m1 m2;have hgx := hg.nth 0 (by omega);have HStg := q4z (show ∀ wx : World, Below w.heap.size w wx → Calls Tryz.prog 151 #[.pointer (some ⟨gp, 0, none⟩), .agg #[.slice fa (nth l 0).pl.length fc, .int .i64 (nth l 0).at_], .bool true] wx fun e w' => qgo wx w' e (nth l 0).at_ (qb7 st (nth l 0).text true) ∧ Below wx.heap.size wx w' from
  fun wx hb => qhf st (nth l 0) true gp _ c kk 0 _ fc ao fa wx rfl h5 (hp.after hb) (hst.after hb).st hgx.1 hgx.2 rfl (qac ho hb))
 have htl := Nat.le_trans (nth l 0).text_len hgx.2;have hl0 : (0 : Int) < (l.length : Int) := by omega
 have hl0n : 0 < l.length := by omega
 have hgs0 := s6;obtain ⟨fa1, fc1, hb1, n1, n2, ho1⟩ := hw.one (k := 1) (by omega);have hgx1 := hg.nth 1 (by omega);have HPl := q4z (show ∀ wx : World, Below w.heap.size w wx → Calls Tryz.prog 80 #[.agg #[.slice fa1 (nth l 1).pl.length fc1, .int .i64 (nth l 1).at_]] wx fun e w' => e = .returned (.tuple #[.string (S (nth l 1).text), .bool (nth l 1).flat]) ∧ Below wx.heap.size wx w' from
  fun wx hb => qbj (nth l 1) fa1 fc1 0 _ wx hgx1.1 hgx1.2 rfl (qac ho1 hb))
 have htl1 := Nat.le_trans (nth l 1).text_len hgx1.2;have hli1 : (1 : Int) < (l.length : Int) := by omega
 have hbN0 : Below w.heap.size w (w.alloc (.cells #[.string (S [])] qbh)) := (Below.refl _ _).alloc (Nat.le_refl _) _;obtain ⟨fa2, fc2, hbw2, p1, p2, ho2⟩ := hw.one (k := 2) (by omega);have hgx2 := hg.nth 2 (by omega);have HSn := q4z (show ∀ wx : World, Below w.heap.size w wx → Calls Tryz.prog 150 #[.agg #[.slice fa2 (nth l 2).pl.length fc2, .int .i64 (nth l 2).at_]] wx fun e w' => e = .returned (.string (S (snB (nth l 2).text))) ∧ Below wx.heap.size wx w' from
  fun wx hb => qfg (nth l 2) fa2 fc2 0 _ wx hgx2.1 hgx2.2 rfl (qac ho2 hb))
 have htl2 := Nat.le_trans (nth l 2).text_len hgx2.2;have hli2 : (2 : Int) < (l.length : Int) := by omega
 have hnm : qgy l p = .ok (nth l 2).text := by
  unfold qgy;rw [if_pos (by omega), if_neg (fun h => h ha), if_neg (by omega), if_neg (by simp [hsb])]
 have HR1 := q4z (fun f hs => qna (st := st) (f := f) hnm hs);have HR := q4z (fun k hs => qpr (st := st) (k := k) hnm hs);have HSN := q4z (qq2 hsb);have hne0 : (nth l 2).text ≠ [] := by intro e; rw [e, qhg] at hsb; cases hsb
 have HNE := q4z hne0;have hne' : ((nth l 2).text == []) = false := by simpa using hne0
 have hie : (nth l 2).text.isEmpty = false := by rw [List.isEmpty_eq_false_iff]; exact hne0
 have h1' : ((nth l 1).text == [65, 83]) = true := by rw [ha]; rfl
 have h1'' : ((nth l 1).text != [65, 83]) = false := by rw [ha]; rfl
 have h2' : ((l.length : Int) == 2) = false := by rw [beq_eq_false_iff_ne]; omega
 clear hs hw ho hgx hg hp hst hv5 hl hso hsc hnm ho1 hgx1 ho2 hgx2 ha hsb hne0;generalize (nth l 0).text = t0 at *;generalize (nth l 0).pl.length = q0 at *;generalize (nth l 0).at_ = pa0 at *;generalize (nth l 1).text = t1 at *;generalize (nth l 1).pl.length = q1 at *;generalize (nth l 1).at_ = pa1 at *;generalize (nth l 1).flat = fl1 at *;generalize (nth l 2).text = t2 at *;generalize (nth l 2).pl.length = q2 at *;generalize (nth l 2).at_ = pa2 at *;go_enter Tryz.func123, Tryz.ntmps123;go_wp2_with (first
  | (go_at_call 80; refine (HPl.out _ hbN0).mono ?_; rintro e1 w1 ⟨rfl, hbp⟩; have hbW1 := hbN0.trans (hbp.mono hbN0.size); obtain ⟨⟨s0, s1, s2, s3⟩, s4, s5, s6⟩ := (HS.out.after hbW1).facts; have n2W := Below.cellAt hbW1 hb1 n2; have p1W := Below.cellAt hbW1 hbw2 p1; have p2W := Below.cellAt hbW1 hbw2 p2; have nm1 : w1.cell? ⟨w.heap.size, 0, none⟩ = some (.string (S [])) := Below.cellAt hbp (by simp) (by simp); have nf1 : w1.frozen? ⟨w.heap.size, 0, none⟩ = false := (hbp.frozen (p := ⟨w.heap.size, 0, none⟩) (by simp)).trans (by simp))
  | (go_at_call 150; refine (HSn.out _ hbW1).mono ?_; rintro e2 w2 ⟨rfl, hbq⟩; rw [HSN.out]; have hbW2 := hbW1.trans (hbq.mono hbW1.size); obtain ⟨⟨s0, s1, s2, s3⟩, s4, s5, s6⟩ := (HS.out.after hbW2).facts; have hnW1 : w.heap.size < w1.heap.size := q40 w1 _ nm1; have nm2 := Below.cellAt hbq hnW1 nm1; have nf2 : w2.frozen? ⟨w.heap.size, 0, none⟩ = false := (hbq.frozen (p := ⟨w.heap.size, 0, none⟩) hnW1).trans nf1; have p2W := Below.cellAt hbW2 hbw2 p2))
 have hbN : Below w.heap.size w (w2.setCell ⟨w.heap.size, 0, none⟩ (.string (S t2))) := Below.setCell hbW2 (Nat.le_refl _) _;have hnW2 : w.heap.size < w2.heap.size := q40 w2 _ nm2;have nm : (w2.setCell ⟨w.heap.size, 0, none⟩ (.string (S t2))).cell? ⟨w.heap.size, 0, none⟩ = some (.string (S t2)) := World.cell?_setCell_same' w2 _ _ (by rw [nm2]; rfl);have hnl : w.heap.size < (w2.setCell ⟨w.heap.size, 0, none⟩ (.string (S t2))).heap.size := by rw [World.size_setCell]; exact hnW2
 clear nm2 nf2 nm1 nf1 p1W p2W n2W s0 s1 s2 s3 s4 s5 s6;generalize hW : w2.setCell ⟨w.heap.size, 0, none⟩ (.string (S t2)) = wN at *;clear hW;have hwN := hbN.size;have hbwN : b < wN.heap.size := Nat.lt_of_lt_of_le hb hwN;have HB0 := q4z (Blk4.new wN (.string (S [])) (.int .i64 0) (.slice none 0 0) (.slice none 0 0) qas);have k1 := Below.cellAt hbN hb m1;have k2 := Below.cellAt hbN hb m2;have r2 := Below.cellAt hbN hbw2 p2;cases hr : qb7 st t0 true with
 | error f =>
  have Y := q4z (show qcw st l p = .error (f, pa0) from HR1.out f hr);have HV := q4z hr;clear hr HR HR1;go_region_dies
  all_goals
   go_at_call 151
   refine (HStg.out _ (by first | exact qab hbN | exact qab (hbN.alloc hwN _) | exact (qab hbN).alloc hwN _)).mono ?_;rintro e6 w6 ⟨ho6, hb6⟩;rw [HV.out] at ho6;obtain ⟨n6, rfl, h6, h7⟩ := ho6;have hbN6 : Below w.heap.size w w6 := by first | exact (qab hbN).trans (hb6.mono hwN) | exact (qab (hbN.alloc hwN _)).trans (hb6.mono (by simp; omega))
   have h6' : w.heap.size ≤ n6 := by first | exact Nat.le_trans hwN h6 | (simp at h6; omega)
   go_wp2;refine ⟨rfl, qca Y.out ⟨n6, rfl, h6', h7⟩, hbN6.mono hB, KeepY.below hbN6⟩
 | ok kq =>
  have hkq := qot hr;have HK := q4z hkq;have HV := q4z hr;have HR2 := q4z (show qcw st l p = if t2 ≠ [] ∧ (t2 = qcf ∨ 0 ≤ qa2 st t2) then .error (6, pa2) else if st.length = 5 then .error (10, p) else .ok (st ++ [⟨t2, kq, [], qhy st kq⟩]) from HR.out kq hr);clear hr HR HR1 hkq;have ne1 : wN.heap.size ≠ w.heap.size := by omega
  have ne2 : wN.heap.size ≠ b := by omega
  go_region_held3 (fun w' => w'.cell? ⟨w.heap.size, 0, none⟩ = some (.string (S t2)) ∧ w'.cell? ⟨b, o, none⟩ = some (.slice fa q0 fc) ∧ w'.cell? ⟨b, o + 1, none⟩ = some (.int .i64 pa0)) (go_keep) (first | (go_at_call 151; refine (HStg.out _ (by first | exact qab hbN | exact qab (hbN.alloc hwN _) | exact (qab hbN).alloc hwN _)).mono ?_; rintro e6 w6 ⟨ho6, hb6⟩; rw [HV.out] at ho6; obtain rfl := ho6; have hbN6 : Below w.heap.size w w6 := (by first | exact (qab hbN).trans (hb6.mono hwN) | exact (qab (hbN.alloc hwN _)).trans (hb6.mono (by simp; omega))); have nm6 : w6.cell? ⟨w.heap.size, 0, none⟩ = some (.string (S t2)) := (by first | exact Below.cellAt hb6 (show w.heap.size < wN.drew.heap.size from hnl) nm | exact Below.cellAt hb6 (by simp; omega) ((World.cell?_alloc_lt _ _ _ hnl).trans nm)); (first | (have hD := Blk4.after HB0.out.drew hb6; obtain ⟨d0, d1, d2, d3, d4, d5, d6, d7⟩ := hD.facts; have hDl := hD.lt; have HD := q4z hD) | skip); have k16 := Below.cellAt hbN6 hb m1; have k26 := Below.cellAt hbN6 hb m2; have hz6 := hbN6.size; have HN6 := q4z hb6.size))
  all_goals
   clear ne1 ne2
   first
    | (have hbS := qqh hbN6 hwN (.string (S t2)) (.int .i64 kq) (.slice none 0 0) (.slice none 0 0)
       have HB9 := q4z (HD.out.four (.string (S t2)) (.int .i64 kq) (.slice none 0 0) (.slice none 0 0));have nmS : ((((w6.setCell ⟨wN.heap.size, 0, none⟩ (.string (S t2))).setCell ⟨wN.heap.size, 1, none⟩ (.int .i64 kq)).setCell ⟨wN.heap.size, 2, none⟩ (.slice none 0 0)).setCell ⟨wN.heap.size, 3, none⟩ (.slice none 0 0)).cell? ⟨w.heap.size, 0, none⟩ = some (.string (S t2)) := by
        have hne : wN.heap.size ≠ w.heap.size := by omega
        simp [World.cell?_setCell_far, hne, nm6]
       have hg9 : w.heap.size < wN.heap.size := hnl;clear d0 d1 d2 d3 d4 d5 d6 d7 hDl HD HB0;generalize hWS : (((w6.setCell ⟨wN.heap.size, 0, none⟩ (.string (S t2))).setCell ⟨wN.heap.size, 1, none⟩ (.int .i64 kq)).setCell ⟨wN.heap.size, 2, none⟩ (.slice none 0 0)).setCell ⟨wN.heap.size, 3, none⟩ (.slice none 0 0) = wS at *;generalize wN.heap.size = g9 at *;clear hWS)
    | (have hb6' : Below wN.drew.heap.size wN.drew w6 := hb6
       have hbS := hbN6.alloc hz6 (.cells #[.string (S t2), .int .i64 kq, .slice none 0 0, .slice none 0 0] qas);have HB9 := q4z (Blk4.new w6 (.string (S t2)) (.int .i64 kq) (.slice none 0 0) (.slice none 0 0) qas);have nmS : (w6.alloc (.cells #[.string (S t2), .int .i64 kq, .slice none 0 0, .slice none 0 0] qas)).cell? ⟨w.heap.size, 0, none⟩ = some (.string (S t2)) := (World.cell?_alloc_lt _ _ _ (q40 w6 _ nm6)).trans nm6;have hg9 : w.heap.size < w6.heap.size := q40 w6 _ nm6;generalize hWS : w6.alloc (.cells #[.string (S t2), .int .i64 kq, .slice none 0 0, .slice none 0 0] qas) = wS at *;generalize w6.heap.size = g9 at *;clear hWS)
   have hzS := hbS.size;obtain ⟨i0, hi0, hz0, hz1, hz2⟩ := info_parts (show (Tryz.prog.info? 118).map (fun i => (i.zero, i.size, i.bytes)) = some (some (.agg #[.string ByteArray.empty, .int .i64 0, .slice none 0 0, .slice none 0 0]), 4, 72) by kernel_rfl);clear k1 k2 nm hwN;obtain ⟨pS1, pS2, pS3, pS4⟩ := (HPB.out.after hbS).blk2.facts;have hplS := (HPB.out.after hbS).lt;obtain ⟨⟨x0, x1, x2, x3⟩, x4, x5, x6⟩ := (HS.out.after hbS).facts;obtain ⟨y0, y1, y2, y3, z0, z1, z2, z3⟩ := HB9.out.facts;have hl9 := HB9.out.lt;have r2S := Below.cellAt hbS hbw2 p2;clear r2;by_cases hsc : t2 = qcf
   ·have Y := q4z (show qcw st l p = .error (6, pa2) by rw [HR2.out, if_pos ⟨HNE.out, .inl hsc⟩])
    have hsc' : (t2 == [115, 99, 114, 97, 116, 99, 104]) = true := by rw [hsc]; rfl
    clear HR2 hsc;go_wp2_with (go_at_call 43; refine (qah 6 pa2 _).mono ?_; rintro e9 w9 ⟨rfl, rfl⟩)
    refine ⟨rfl, qca Y.out ⟨_, rfl, hzS, heap_alloc_new _ _⟩, (hbS.mono hB).alloc (Nat.le_trans hB hzS) _, KeepY.below (hbS.alloc hzS _)⟩
   have hsc' : (t2 == [115, 99, 114, 97, 116, 99, 104]) = false := by rw [beq_eq_false_iff_ne]; exact hsc
   cases hd : decide (0 ≤ qa2 st t2) with
   | true =>
    have Y := q4z (show qcw st l p = .error (6, pa2) by rw [HR2.out, if_pos ⟨HNE.out, .inr (of_decide_eq_true hd)⟩]);have HD := q4z hd;clear HR2 hsc hd;go_wp2_with (first
     | (go_at_call 152; refine (qcm st t2 ao _ c w.heap.size _ rfl h5 (HST.out.after hbS).st nmS).mono ?_; rintro e10 w10 ⟨rfl, hb10⟩; rw [HD.out]; have hbT := hbS.trans (hb10.mono hzS); obtain ⟨pS1, pS2, pS3, pS4⟩ := (HPB.out.after hbT).blk2.facts; have hplS := (HPB.out.after hbT).lt; obtain ⟨⟨x0, x1, x2, x3⟩, x4, x5, x6⟩ := (HS.out.after hbT).facts; have HBT := q4z (HB9.out.after hb10); obtain ⟨y0, y1, y2, y3, z0, z1, z2, z3⟩ := HBT.out.facts; have hl9 := HBT.out.lt; have r2T := Below.cellAt hbT hbw2 p2; have hzT := hbT.size)
     | (go_at_call 43; refine (qah 6 pa2 _).mono ?_; rintro e9 w9 ⟨rfl, rfl⟩))
    refine ⟨rfl, qca Y.out ⟨_, rfl, hzT, heap_alloc_new _ _⟩, (hbT.mono hB).alloc (Nat.le_trans hB hzT) _, KeepY.below (hbT.alloc hzT _)⟩
   | false =>
    have HR3 := q4z (show qcw st l p = if st.length = 5 then .error (10, p) else .ok (st ++ [⟨t2, kq, [], qhy st kq⟩]) by rw [HR2.out, if_neg (fun h => h.2.elim hsc (fun e => of_decide_eq_false hd e))]);have HD := q4z hd;clear HR2 hsc hd;by_cases h55 : st.length = 5
    ·have Y := q4z (show qcw st l p = .error (10, p) by rw [HR3.out, if_pos h55])
     have h55' : ((st.length : Int) == 5) = true := by rw [beq_iff_eq]; omega
     clear HR3 h55;go_wp2_with (first
      | (go_at_call 152; refine (qcm st t2 ao _ c w.heap.size _ rfl h5 (HST.out.after hbS).st nmS).mono ?_; rintro e10 w10 ⟨rfl, hb10⟩; rw [HD.out]; have hbT := hbS.trans (hb10.mono hzS); obtain ⟨pS1, pS2, pS3, pS4⟩ := (HPB.out.after hbT).blk2.facts; have hplS := (HPB.out.after hbT).lt; obtain ⟨⟨x0, x1, x2, x3⟩, x4, x5, x6⟩ := (HS.out.after hbT).facts; have HBT := q4z (HB9.out.after hb10); obtain ⟨y0, y1, y2, y3, z0, z1, z2, z3⟩ := HBT.out.facts; have hl9 := HBT.out.lt; have r2T := Below.cellAt hbT hbw2 p2; have hzT := hbT.size)
      | (go_at_call 43; refine (qah 10 p _).mono ?_; rintro e9 w9 ⟨rfl, rfl⟩))
     refine ⟨rfl, qca Y.out ⟨_, rfl, hzT, heap_alloc_new _ _⟩, (hbT.mono hB).alloc (Nat.le_trans hB hzT) _, KeepY.below (hbT.alloc hzT _)⟩
    ·have h55' : ((st.length : Int) == 5) = false := by rw [beq_eq_false_iff_ne]; omega
     have hlt5 : st.length < 5 := by omega
     rcases qek st t0 with hk | ⟨kn, hkl, hk⟩
     ·obtain rfl : kq = -1 := by rw [HK.out]; exact hk
      have Y := q4z (show qcw st l p = .ok (st ++ [⟨t2, -1, [], []⟩]) by rw [HR3.out, if_neg h55, qjb (by omega)]);clear HR3 hk h55;go_wp2_with (go_at_call 152; refine (qcm st t2 ao _ c w.heap.size _ rfl h5 (HST.out.after hbS).st nmS).mono ?_; rintro e10 w10 ⟨rfl, hb10⟩; rw [HD.out]; have hbT := hbS.trans (hb10.mono hzS); obtain ⟨pS1, pS2, pS3, pS4⟩ := (HPB.out.after hbT).blk2.facts; have hplS := (HPB.out.after hbT).lt; obtain ⟨⟨x0, x1, x2, x3⟩, x4, x5, x6⟩ := (HS.out.after hbT).facts; have HBT := q4z (HB9.out.after hb10); obtain ⟨y0, y1, y2, y3, z0, z1, z2, z3⟩ := HBT.out.facts; have hl9 := HBT.out.lt; have r2T := Below.cellAt hbT hbw2 p2; have hzT := hbT.size)
      have hbX := hbT;have hzX := hzT;have HVV := q4z (World.ownsRow_nil w10 w.heap.size qbh 1);have HVA := q4z (fun o : Obj => qac HVV.out (show Below w10.heap.size w10 (w10.drew.alloc o) from Below.alloc (qab (Below.refl _ _)) (Nat.le_refl _) o))
      go_region_law (refine step_append_lies _ (by rfl) (.tmp 109) (.tmp 111) 101 (by rfl) B qas i0 (.agg #[.string ByteArray.empty, .int .i64 0, .slice none 0 0, .slice none 0 0]) 4 72 Tryz.underlying101 hi0 hz0 hz1 hz2 (by rfl) (by decide) (.slice ao st.length c) st.length cs (by rfl) (qac HSO.out (Below.alloc (qab hbX) hzX _)) ⟨_, 0, none⟩ 1 1 [.string (S t2), .int .i64 (-1), .slice none 0 0, .slice none 0 0] (by rfl) (by rfl) (qc4 _ _ _ _ _ _ _ (by simp)) (by simp [Value.oneCell']) (by decide) (by unfold maxLen; omega) (by omega) (by simp; omega) _ (by rfl) ?_; intro g' c' w7 hown7 hgr7 _ _; obtain ⟨PS, PP⟩ := qkh (vs := []) HSO.out HSC.out HPB.out HS.out (Below.alloc (qab hbX) hzX _) hgr7 (HVA.out _) hown7 hB hgp; have PS := q4z PS; obtain ⟨v1, v2, v3, v4⟩ := PP.blk2.facts; clear hown7 hgr7 PP)
      all_goals
       go_wp2
       first | go_end0 | refine bodyPost_ret (results_none rfl _ _ _) rfl ?_
       obtain ⟨P1, P2, P3, P4, P5⟩ := PS.out;refine ⟨?_, P5, P4⟩;rw [Y.out];exact ⟨rfl, P3, _, _, by rw [List.length_append]; exact P2, P1⟩
     ·obtain rfl : kq = (kn : Int) := by rw [HK.out]; exact hk
      obtain ⟨b2, o2, va, vc, rfl, hb2, m4, hov⟩ := HST.out.cellsAt hkl;have Y := q4z (show qcw st l p = .ok (st ++ [⟨t2, (kn : Int), [], st[kn].vars⟩]) by rw [HR3.out, if_neg h55, qkt hkl]);have hvl : st[kn].vars.length ≤ 100 := HV5.out _ (List.getElem_mem hkl);have HCl := q4z (show ∀ wx : World, Below w.heap.size w wx → Calls Tryz.prog 154 #[.slice va st[kn].vars.length vc] wx fun e w' => (∃ A' c', e = .returned (.slice A' st[kn].vars.length c') ∧ w'.ownsRow wx.heap.size qbh 1 (.slice A' st[kn].vars.length c') st[kn].vars.length (strs st[kn].vars)) ∧ Below wx.heap.size wx w' from
       fun wx hb => qni st[kn].vars va _ vc 0 wx rfl (by omega) (qac hov hb))
      have hkni : (kn : Int) < (st.length : Int) := by omega
      have M4 := q4z m4;have HG9 := q4z HB9.out.lt;clear HR3 hk hov m4 h55;go_wp2_with (go_at_call 152; refine (qcm st t2 (some ⟨b2, o2, none⟩) _ c w.heap.size _ rfl h5 (HST.out.after hbS).st nmS).mono ?_; rintro e10 w10 ⟨rfl, hb10⟩; rw [HD.out]; have hbT := hbS.trans (hb10.mono hzS); obtain ⟨pS1, pS2, pS3, pS4⟩ := (HPB.out.after hbT).blk2.facts; have hplS := (HPB.out.after hbT).lt; obtain ⟨⟨x0, x1, x2, x3⟩, x4, x5, x6⟩ := (HS.out.after hbT).facts; have HBT := q4z (HB9.out.after hb10); obtain ⟨y0, y1, y2, y3, z0, z1, z2, z3⟩ := HBT.out.facts; have hl9 := HBT.out.lt; have r2T := Below.cellAt hbT hbw2 p2; have hzT := hbT.size; have m4S := Below.cellAt hbT hb2 M4.out)
      go_region_law (go_simp; go_at_call 154; refine (HCl.out _ (qab hbT)).mono ?_; rintro e8 w8 ⟨⟨A8, c8, rfl, ho8⟩, hb8⟩; have HB8 := q4z (HBT.out.drew.after hb8); obtain ⟨y0, y1, y2, y3, z0, z1, z2, z3⟩ := HB8.out.facts; have hl9 := HB8.out.lt; have HO8 := q4z ho8; have HE8 := q4z hb8; clear ho8 hb8)
      all_goals
       have hbX : Below w.heap.size w (w8.setCell ⟨g9, 3, none⟩ (.slice A8 st[kn].vars.length c8)) := Below.setCell ((qab hbT).trans (HE8.out.mono hzT)) (Nat.le_of_lt hg9) _;have HBZ := q4z (HB8.out.set3 (.slice A8 st[kn].vars.length c8));have HVV := q4z (qaq (ownsRow_setCell_below HO8.out (a := ⟨g9, 3, none⟩) HBT.out.lt (.slice A8 st[kn].vars.length c8)) hzT);clear y0 y1 y2 y3 z0 z1 z2 z3 hl9 HB8 HO8 HE8 pS1 pS2 pS3 pS4 hplS x0 x1 x2 x3 x4 x5 x6 m4S r2T r2S;generalize hWZ : w8.setCell ⟨g9, 3, none⟩ (.slice A8 st[kn].vars.length c8) = wz at *;clear hWZ;have hzX := hbX.size;obtain ⟨pS1, pS2, pS3, pS4⟩ := (HPB.out.after hbX).blk2.facts;have hplS := (HPB.out.after hbX).lt
       obtain ⟨⟨x0, x1, x2, x3⟩, x4, x5, x6⟩ := (HS.out.after hbX).facts;obtain ⟨y0, y1, y2, y3, z0, z1, z2, z3⟩ := HBZ.out.facts;have hl9 := HBZ.out.lt;go_wp2;have HVA := q4z (fun o : Obj => qac HVV.out (show Below wz.heap.size wz (wz.drew.alloc o) from Below.alloc (qab (Below.refl _ _)) (Nat.le_refl _) o))
       go_region_law (refine step_append_lies _ (by rfl) (.tmp 109) (.tmp 111) 101 (by rfl) B qas i0 (.agg #[.string ByteArray.empty, .int .i64 0, .slice none 0 0, .slice none 0 0]) 4 72 Tryz.underlying101 hi0 hz0 hz1 hz2 (by rfl) (by decide) (.slice (some ⟨b2, o2, none⟩) st.length c) st.length cs (by rfl) (qac HSO.out (Below.alloc (qab hbX) hzX _)) ⟨_, 0, none⟩ 1 1 [.string (S t2), .int .i64 (kn : Int), .slice none 0 0, .slice A8 st[kn].vars.length c8] (by rfl) (by rfl) (qc4 _ _ _ _ _ _ _ (by simp)) (by simp [Value.oneCell']) (by decide) (by unfold maxLen; omega) (by omega) (by simp; omega) _ (by rfl) ?_; intro g' c' w7 hown7 hgr7 _ _; obtain ⟨PS, PP⟩ := qkh (vs := st[kn].vars) HSO.out HSC.out HPB.out HS.out (Below.alloc (qab hbX) hzX _) hgr7 (HVA.out _) hown7 hB hgp; have PS := q4z PS; obtain ⟨v1, v2, v3, v4⟩ := PP.blk2.facts; clear hown7 hgr7 PP)
       all_goals
        go_wp2
        first | go_end0 | refine bodyPost_ret (results_none rfl _ _ _) rfl ?_
        obtain ⟨P1, P2, P3, P4, P5⟩ := PS.out;refine ⟨?_, P5, P4⟩;rw [Y.out];exact ⟨rfl, P3, _, _, by rw [List.length_append]; exact P2, P1⟩
theorem qfr (st : List StageG) (l : List WordG) (B gp gs b o lc p c kk : Nat) (kd k0 : Int) (ao : Option Addr) (w : World) (h5 : st.length ≤ 5) (hv5 : ∀ x ∈ st, x.vars.length ≤ 100) (hp : PB w gp ao st.length c kk) (hst : FStagesR B w st ao c) (hB : B ≤ w.heap.size) (hgp : B ≤ gp)
 (hs : SBlk w gs kd (some ⟨b, o, none⟩) l.length lc k0 p) (hw : FWordsR w (some ⟨b, o, none⟩) l) (hg : GoodW l) (hl1 : 1 ≤ l.length) (hl3 : l.length ≤ 3) (hlc : l.length ≤ lc) (hlm : lc ≤ maxLen) :
 Calls Tryz.prog 123 #[.pointer (some ⟨gp, 0, none⟩), .pointer (some ⟨gs, 0, none⟩)] w fun e w' => qlp B gp gs kk l.length lc p kd k0 (some ⟨b, o, none⟩) w w' e (qcw st l p) ∧ Below B w w' ∧ KeepY w w' := by
 by_cases h1 : l.length = 1
 ·exact q26 st l B gp gs b o lc p c kk kd k0 ao w h5 hv5 hp hst hB hgp hs hw hg hl1 hl3 hlc hlm h1
 ·by_cases ha : (nth l 1).text = wAS
  ·by_cases h2 : l.length = 2
   ·exact qr3 st l B gp gs b o lc p c kk kd k0 ao w h5 hv5 hp hst hB hgp hs hw hg hl1 hl3 hlc hlm (by omega) (5, p) (by unfold qgy; rw [if_pos (by omega), if_neg (fun h => h ha), if_pos h2])
   ·cases hsb : qb8 (nth l 2).text with
    | false => exact qr3 st l B gp gs b o lc p c kk kd k0 ao w h5 hv5 hp hst hB hgp hs hw hg hl1 hl3 hlc hlm (by omega) (5, (nth l 2).at_) (by unfold qgy; rw [if_pos (by omega), if_neg (fun h => h ha), if_neg h2, if_pos hsb])
    | true => exact q25 st l B gp gs b o lc p c kk kd k0 ao w h5 hv5 hp hst hB hgp hs hw hg hl1 hl3 hlc hlm (by omega) ha hsb
  ·exact qr3 st l B gp gs b o lc p c kk kd k0 ao w h5 hv5 hp hst hB hgp hs hw hg hl1 hl3 hlc hlm (by omega) (5, (nth l 1).at_) (by unfold qgy; rw [if_pos (by omega), if_pos ha])
theorem PB.inc {w : World} {gp : Nat} {ao : Option Addr} {n c k : Nat} (h : PB w gp ao n c k) {v : Int} (hv : v = ((k + 1 : Nat) : Int)) : PB (w.setCell ⟨gp, 1, none⟩ (.int .i64 v)) gp ao n c (k + 1) := by
 subst hv; exact heap_setCell_same w gp 1 _ _ _ h
theorem PB.blkT {w : World} {gp : Nat} {ao : Option Addr} {n c k : Nat} (h : PB w gp ao n c k) : BlkT w gp qdi := ⟨_, h⟩
theorem FStagesR.incP {B gp : Nat} {w : World} {st : List StageG} {ao : Option Addr} {c : Nat} (h : FStagesR B w st ao c) (hb : BlkT w gp qdi) (v : Value) : FStagesR B (w.setCell ⟨gp, 1, none⟩ v) st ao c :=
 h.keep (KeepT.setT hb (by decide) _ _) (KeepT.setT hb (by decide) _ _) (KeepT.setT hb (by decide) _ _) (KeepT.setT hb (by decide) _ _) (KeepT.setT hb (by decide) _ _) (by simp)
theorem SBlk.incP {w : World} {gs gp : Nat} {kd : Int} {A : Option Addr} {n c : Nat} {k : Int} {p : Nat} (h : SBlk w gs kd A n c k p) (hb : BlkT w gp qdi) (v : Value) : SBlk (w.setCell ⟨gp, 1, none⟩ v) gs kd A n c k p := h.keep (KeepT.setT hb (by decide) _ _)
theorem KeepY.incP {w w' : World} {gp : Nat} (h : KeepY w w') (hb : BlkT w' gp qdi) (v : Value) : KeepY w (w'.setCell ⟨gp, 1, none⟩ v) := fun T a b c d => (h T a b c d).trans (KeepT.setT hb (fun e => d e.symm) _ _)
theorem qrw (st : List StageG) (x0 : WordG) (l : List WordG) (B gp b o lw c kk : Nat) (ao : Option Addr) (w : World) (h5 : st.length ≤ 5) (hbd : StB 50 st) (hk24 : kk ≤ 24) (hp : PB w gp ao st.length c kk) (hst : FStagesR B w st ao c) (hB : B ≤ w.heap.size) (hgp : B ≤ gp) (hord : Ord w)
 (hw : FWordsR w (some ⟨b, o, none⟩) (x0 :: l)) (hg : GoodW (x0 :: l)) (hl4 : l.length + 1 ≤ 2000) (hlc : l.length + 1 ≤ lw) (hlm : lw ≤ maxLen) (ht : x0.text = qco) (hlo : 1 ≤ l.length) (hhi : l.length ≤ 3) :
 Calls Tryz.prog 45 #[.pointer (some ⟨gp, 0, none⟩), .slice (some ⟨b, o, none⟩) (l.length + 1) lw] w fun e w' => qda B gp kk w w' e (qaz st (x0 :: l) kk) ∧ Below B w w' ∧ KeepY w w' := by
 have HPB := q4z hp;have HST := q4z hst;have HW := q4z hw;have HGL := q4z (show GoodW l from fun x hx => hg x (List.mem_cons_of_mem _ hx));have HO := q4z hord;obtain ⟨fa, fc, hb, m1, m2, ho⟩ := hw.one (k := 0) (by simp);rw [Nat.zero_mul, Nat.add_zero] at m1 m2;rw [show nth (x0 :: l) 0 = x0 from rfl] at m1 m2 ho;have hgx : GoodA x0.l ∧ x0.l.length ≤ 2000 := hg x0 (by simp);have HPl := q4z (show ∀ wx : World, Below w.heap.size w wx → Calls Tryz.prog 80 #[.agg #[.slice fa x0.pl.length fc, .int .i64 x0.at_]] wx fun e w' => e = .returned (.tuple #[.string (S x0.text), .bool x0.flat]) ∧ Below wx.heap.size wx w' from
  fun wx hb => qbj x0 fa fc 0 _ wx hgx.1 hgx.2 rfl (qac ho hb))
 have hl0 : (0 : Int) < (l.length : Int) + 1 := by omega
 have hl1' : (1 : Int) ≤ (l.length : Int) + 1 := by omega
 have hlc' : (l.length : Int) + 1 ≤ (lw : Int) := by omega
 have hlw : ¬ lw = 1 := by omega
 obtain ⟨hf1, hf2, hf3, hfv, _⟩ := qpu;rw [← ht] at hf1 hf2 hf3;have hr0 := qrs (st := st) (ws := x0 :: l) (n := kk) hf3 (by rintro (h | h | h); exact h.2 ht; simp at h; omega; simp at h; omega) ht;rw [qvf] at hr0;have HR := q4z (show qaz st (x0 :: l) kk = (match qcw st l x0.at_ with | .error f => .error f | .ok st' => if 24 < kk + 1 then .error (10, x0.at_) else .ok st') from hr0);have HFR := q4z hf1;have HKD := q4z hf2;clear hf1 hf2 hf3 ht hr0;clear hp hst hw hg hord ho hgx;generalize x0.text = t0 at *;generalize x0.pl.length = q0 at *;generalize x0.at_ = pa0 at *;generalize x0.flat = fl0 at *;have hk0 : kk + 1 ≤ 9223372036854775807 := by omega
 have hk0' : (kk : Int) + 1 = ((kk + 1 : Nat) : Int) := by omega
 have hlo2 : decide (l.length < 1) = false := by rw [decide_eq_false_iff_not]; omega
 have hhi2 : decide (3 < l.length) = false := by rw [decide_eq_false_iff_not]; omega
 have hlo3 : ¬ l.length < 1 := by omega
 have hhi3 : ¬ 3 < l.length := by omega
 clear hk0';have hnf : ∀ w : World, (binOp .neq 176 (.func (Fn.func 123) #[] #[]) .nilFunc).run Tryz.prog w = .ok (.bool true) w := fun _ => by kernel_rfl
 by_cases hst0 : st.length = 0
 ·have hs0 : ((st.length : Int) == 0) = true := by rw [beq_iff_eq]; omega
  clear hst0;go_enter Tryz.func45, Tryz.ntmps45;go_wp2_with (first
   | (go_at_call 80; refine (HPl.out _ (Below.refl _ _)).mono ?_; rintro e1 w1 ⟨rfl, hb1⟩; have hO1 := q4z (HO.out.after hb1))
   | (go_at_call 81; refine (qat t0 _ hO1.out).mono ?_; rintro e2 w2 ⟨rfl, hb2⟩; rw [HFR.out]; have hb12 := hb1.trans (hb2.mono hb1.size)))
  have hbA : Below w.heap.size w (w2.alloc (.cells #[.string (S t0), .int .i64 1, .int .i64 3, .func (Fn.func 123) #[] #[]] qay)) := hb12.alloc hb12.size _;have HFB := q4z (Blk4.new w2 (.string (S t0)) (.int .i64 1) (.int .i64 3) (.func (Fn.func 123) #[] #[]) qay);have hgf : w.heap.size ≤ w2.heap.size := hb12.size;generalize hWA : w2.alloc (.cells #[.string (S t0), .int .i64 1, .int .i64 3, .func (Fn.func 123) #[] #[]] qay) = wA at *;generalize w2.heap.size = gf at *;clear hWA hb12 hb1 hb2 hO1;have k2A := Below.cellAt hbA hb m2;have hOA := q4z (HO.out.after hbA);have hzA := hbA.size;obtain ⟨p1, p2, p3, p4⟩ := (HPB.out.after (qab hbA)).blk2.facts;have hpl := (HPB.out.after hbA).lt
  obtain ⟨f0, f1, f2, f3, _, _, _, _⟩ := HFB.out.facts;have hfl := HFB.out.lt;have hpA : wA.cell? ⟨gp, 0, none⟩ = some (.slice ao st.length c) := (HPB.out.after hbA).blk2.facts.1;go_region_held3 (fun w' => w'.cell? ⟨b, o + 1, none⟩ = some (.int .i64 pa0)) (go_keep) (first | (go_at_call 82; refine (qao t0 _ (by first | exact hOA.out.after (qab (Below.refl _ _)) | exact hOA.out.after (qab (Below.alloc (Below.refl _ _) (Nat.le_refl _) _)))).mono ?_; rintro e3 w3 ⟨rfl, rfl⟩; rw [HKD.out]))
  all_goals
   have hbB : Below w.heap.size w (wA.alloc (.cells #[.int .i64 0, .slice (some ⟨b, o + 2, none⟩) l.length (lw - 1), .int .i64 (-1), .int .i64 pa0] qam)).drew := qab (hbA.alloc hzA _);have HSB := q4z (show SBlk (wA.alloc (.cells #[.int .i64 0, .slice (some ⟨b, o + 2, none⟩) l.length (lw - 1), .int .i64 (-1), .int .i64 pa0] qam)).drew wA.heap.size 0 (some ⟨b, o + 2, none⟩) l.length (lw - 1) (-1) pa0 from ⟨heap_alloc_new wA _⟩);have HFX := q4z (Blk4.drew (HFB.out.alloc' (.cells #[.int .i64 0, .slice (some ⟨b, o + 2, none⟩) l.length (lw - 1), .int .i64 (-1), .int .i64 pa0] qam)));have hgs : w.heap.size ≤ wA.heap.size := hzA;clear f0 f1 f2 f3 hfl p1 p2 p3 p4 hpl hpA k2A
   generalize hWB : (wA.alloc (.cells #[.int .i64 0, .slice (some ⟨b, o + 2, none⟩) l.length (lw - 1), .int .i64 (-1), .int .i64 pa0] qam)).drew = wB at *;generalize wA.heap.size = gs at *;clear hWB;have hzB := hbB.size;obtain ⟨p1, p2, p3, p4⟩ := (HPB.out.after hbB).blk2.facts;have hpl := (HPB.out.after hbB).lt;obtain ⟨f0, f1, f2, f3, _, _, _, _⟩ := HFX.out.facts;have hfl := HFX.out.lt;obtain ⟨⟨g0, g1, g2, g3⟩, g4, g5, g6⟩ := HSB.out.facts;cases hr : qcw st l pa0 with
   | error fp =>
    obtain ⟨f4, p4'⟩ := fp;have Y := q4z (show qaz st (x0 :: l) kk = .error (f4, p4') by rw [HR.out, hr]);have HV := q4z hr;clear hr HR;go_wp2_with (go_at_call 123; refine (qfr st l B gp gs b (o + 2) (lw - 1) pa0 c kk 0 (-1) ao wB h5 (fun x hx => by have := (hbd x hx).1; omega) (HPB.out.after hbB) (HST.out.after hbB) (Nat.le_trans hB hzB) hgp HSB.out ((HW.out.after hbB).drop 1) HGL.out hlo hhi (by omega) (by omega)).mono ?_; rintro e4 w4 ⟨ho4, hb4, hy4⟩; rw [HV.out] at ho4; obtain ⟨n6, rfl, h6, h7⟩ := ho4)
    exact ⟨rfl, qaj Y.out ⟨n6, rfl, Nat.le_trans hzB h6, h7⟩, (hbB.mono hB).trans hb4, (KeepY.below hbB).trans hy4⟩
   | ok st' =>
    have HV := q4z hr;by_cases h24 : 24 < kk + 1
    ·have Y := q4z (show qaz st (x0 :: l) kk = .error (10, pa0) by rw [HR.out, hr]; simp only; rw [if_pos h24])
     have h24' : (24 : Int) < (kk : Int) + 1 := by omega
     clear hr HR;go_wp2_with (first
      | (go_at_call 123; refine (qfr st l B gp gs b (o + 2) (lw - 1) pa0 c kk 0 (-1) ao wB h5 (fun x hx => by have := (hbd x hx).1; omega) (HPB.out.after hbB) (HST.out.after hbB) (Nat.le_trans hB hzB) hgp HSB.out ((HW.out.after hbB).drop 1) HGL.out hlo hhi (by omega) (by omega)).mono ?_; rintro e4 w4 ⟨ho4, hb4, hy4⟩; rw [HV.out] at ho4; obtain ⟨rfl, hs4, ao4, c4, hp4, hst4⟩ := ho4; have HP4 := q4z hp4; have HS4 := q4z hs4; have HT4 := q4z hst4; obtain ⟨p1, p2, p3, p4⟩ := hp4.blk2.facts; have hpl := hp4.lt; obtain ⟨⟨g0, g1, g2, g3⟩, g4, g5, g6⟩ := hs4.facts; obtain ⟨⟨g0, g1, g2, g3⟩, g4, g5, g6⟩ := (hs4.incP hp4.blkT (.int .i64 ((kk : Int) + 1))).facts; clear hp4 hs4 hst4)
      | (go_at_call 43; refine (qah 10 pa0 _).mono ?_; rintro e9 w9 ⟨rfl, rfl⟩))
     have hbZ : Below B w (w4.setCell ⟨gp, 1, none⟩ (.int .i64 ((kk : Int) + 1))) := Below.setCell ((hbB.mono hB).trans hb4) hgp _;have hsZ : w.heap.size ≤ w4.heap.size := Nat.le_trans hzB hb4.size;exact ⟨rfl, qaj Y.out ⟨_, rfl, hsZ, qag _ _ _ (by simp)⟩, Below.alloc hbZ (by rw [World.size_setCell]; exact Nat.le_trans hB hsZ) _, (KeepY.incP ((KeepY.below hbB).trans hy4) HP4.out.blkT _).trans (KeepY.below (Below.alloc (Below.refl _ _) (Nat.le_refl _) _))⟩
    ·have Y := q4z (show qaz st (x0 :: l) kk = .ok st' by rw [HR.out, hr]; simp only; rw [if_neg h24])
     have h24' : decide ((24 : Int) < (kk : Int) + 1) = false := by rw [decide_eq_false_iff_not]; omega
     clear hr HR
     go_wp2_with (go_at_call 123; refine (qfr st l B gp gs b (o + 2) (lw - 1) pa0 c kk 0 (-1) ao wB h5 (fun x hx => by have := (hbd x hx).1; omega) (HPB.out.after hbB) (HST.out.after hbB) (Nat.le_trans hB hzB) hgp HSB.out ((HW.out.after hbB).drop 1) HGL.out hlo hhi (by omega) (by omega)).mono ?_; rintro e4 w4 ⟨ho4, hb4, hy4⟩; rw [HV.out] at ho4; obtain ⟨rfl, hs4, ao4, c4, hp4, hst4⟩ := ho4; have HP4 := q4z hp4; have HS4 := q4z hs4; have HT4 := q4z hst4; obtain ⟨p1, p2, p3, p4⟩ := hp4.blk2.facts; have hpl := hp4.lt; obtain ⟨⟨g0, g1, g2, g3⟩, g4, g5, g6⟩ := hs4.facts; obtain ⟨⟨g0, g1, g2, g3⟩, g4, g5, g6⟩ := (hs4.incP hp4.blkT (.int .i64 ((kk : Int) + 1))).facts; clear hp4 hs4 hst4)
     first | go_end0 | refine bodyPost_ret (results_none rfl _ _ _) rfl ?_
     exact ⟨qdt Y.out rfl rfl (HP4.out.inc (by omega)) (HT4.out.incP HP4.out.blkT _), Below.setCell ((hbB.mono hB).trans hb4) hgp _, KeepY.incP ((KeepY.below hbB).trans hy4) HP4.out.blkT _⟩
 ·have hs0 : ((st.length : Int) == 0) = false := by rw [beq_eq_false_iff_ne]; omega
  clear hst0;go_enter Tryz.func45, Tryz.ntmps45;go_wp2_with (first
   | (go_at_call 80; refine (HPl.out _ (Below.refl _ _)).mono ?_; rintro e1 w1 ⟨rfl, hb1⟩; have hO1 := q4z (HO.out.after hb1))
   | (go_at_call 81; refine (qat t0 _ hO1.out).mono ?_; rintro e2 w2 ⟨rfl, hb2⟩; rw [HFR.out]; have hb12 := hb1.trans (hb2.mono hb1.size)))
  have hbA : Below w.heap.size w (w2.alloc (.cells #[.string (S t0), .int .i64 1, .int .i64 3, .func (Fn.func 123) #[] #[]] qay)) := hb12.alloc hb12.size _;have HFB := q4z (Blk4.new w2 (.string (S t0)) (.int .i64 1) (.int .i64 3) (.func (Fn.func 123) #[] #[]) qay);have hgf : w.heap.size ≤ w2.heap.size := hb12.size;generalize hWA : w2.alloc (.cells #[.string (S t0), .int .i64 1, .int .i64 3, .func (Fn.func 123) #[] #[]] qay) = wA at *;generalize w2.heap.size = gf at *;clear hWA hb12 hb1 hb2 hO1;have k2A := Below.cellAt hbA hb m2;have hOA := q4z (HO.out.after hbA);have hzA := hbA.size;obtain ⟨p1, p2, p3, p4⟩ := (HPB.out.after (qab hbA)).blk2.facts;have hpl := (HPB.out.after hbA).lt
  obtain ⟨f0, f1, f2, f3, _, _, _, _⟩ := HFB.out.facts;have hfl := HFB.out.lt;have hpA : wA.cell? ⟨gp, 0, none⟩ = some (.slice ao st.length c) := (HPB.out.after hbA).blk2.facts.1;go_region_held3 (fun w' => w'.cell? ⟨b, o + 1, none⟩ = some (.int .i64 pa0)) (go_keep) (first | (go_at_call 82; refine (qao t0 _ (by first | exact hOA.out.after (qab (Below.refl _ _)) | exact hOA.out.after (qab (Below.alloc (Below.refl _ _) (Nat.le_refl _) _)))).mono ?_; rintro e3 w3 ⟨rfl, rfl⟩; rw [HKD.out]))
  all_goals
   have hbB : Below w.heap.size w (wA.alloc (.cells #[.int .i64 0, .slice (some ⟨b, o + 2, none⟩) l.length (lw - 1), .int .i64 (-1), .int .i64 pa0] qam)).drew := qab (hbA.alloc hzA _);have HSB := q4z (show SBlk (wA.alloc (.cells #[.int .i64 0, .slice (some ⟨b, o + 2, none⟩) l.length (lw - 1), .int .i64 (-1), .int .i64 pa0] qam)).drew wA.heap.size 0 (some ⟨b, o + 2, none⟩) l.length (lw - 1) (-1) pa0 from ⟨heap_alloc_new wA _⟩);have HFX := q4z (Blk4.drew (HFB.out.alloc' (.cells #[.int .i64 0, .slice (some ⟨b, o + 2, none⟩) l.length (lw - 1), .int .i64 (-1), .int .i64 pa0] qam)));have hgs : w.heap.size ≤ wA.heap.size := hzA;clear f0 f1 f2 f3 hfl p1 p2 p3 p4 hpl hpA k2A
   generalize hWB : (wA.alloc (.cells #[.int .i64 0, .slice (some ⟨b, o + 2, none⟩) l.length (lw - 1), .int .i64 (-1), .int .i64 pa0] qam)).drew = wB at *;generalize wA.heap.size = gs at *;clear hWB;have hzB := hbB.size;obtain ⟨p1, p2, p3, p4⟩ := (HPB.out.after hbB).blk2.facts;have hpl := (HPB.out.after hbB).lt;obtain ⟨f0, f1, f2, f3, _, _, _, _⟩ := HFX.out.facts;have hfl := HFX.out.lt;obtain ⟨⟨g0, g1, g2, g3⟩, g4, g5, g6⟩ := HSB.out.facts;cases hr : qcw st l pa0 with
   | error fp =>
    obtain ⟨f4, p4'⟩ := fp;have Y := q4z (show qaz st (x0 :: l) kk = .error (f4, p4') by rw [HR.out, hr]);have HV := q4z hr;clear hr HR;go_wp2_with (go_at_call 123; refine (qfr st l B gp gs b (o + 2) (lw - 1) pa0 c kk 0 (-1) ao wB h5 (fun x hx => by have := (hbd x hx).1; omega) (HPB.out.after hbB) (HST.out.after hbB) (Nat.le_trans hB hzB) hgp HSB.out ((HW.out.after hbB).drop 1) HGL.out hlo hhi (by omega) (by omega)).mono ?_; rintro e4 w4 ⟨ho4, hb4, hy4⟩; rw [HV.out] at ho4; obtain ⟨n6, rfl, h6, h7⟩ := ho4)
    exact ⟨rfl, qaj Y.out ⟨n6, rfl, Nat.le_trans hzB h6, h7⟩, (hbB.mono hB).trans hb4, (KeepY.below hbB).trans hy4⟩
   | ok st' =>
    have HV := q4z hr;by_cases h24 : 24 < kk + 1
    ·have Y := q4z (show qaz st (x0 :: l) kk = .error (10, pa0) by rw [HR.out, hr]; simp only; rw [if_pos h24])
     have h24' : (24 : Int) < (kk : Int) + 1 := by omega
     clear hr HR;go_wp2_with (first
      | (go_at_call 123; refine (qfr st l B gp gs b (o + 2) (lw - 1) pa0 c kk 0 (-1) ao wB h5 (fun x hx => by have := (hbd x hx).1; omega) (HPB.out.after hbB) (HST.out.after hbB) (Nat.le_trans hB hzB) hgp HSB.out ((HW.out.after hbB).drop 1) HGL.out hlo hhi (by omega) (by omega)).mono ?_; rintro e4 w4 ⟨ho4, hb4, hy4⟩; rw [HV.out] at ho4; obtain ⟨rfl, hs4, ao4, c4, hp4, hst4⟩ := ho4; have HP4 := q4z hp4; have HS4 := q4z hs4; have HT4 := q4z hst4; obtain ⟨p1, p2, p3, p4⟩ := hp4.blk2.facts; have hpl := hp4.lt; obtain ⟨⟨g0, g1, g2, g3⟩, g4, g5, g6⟩ := hs4.facts; obtain ⟨⟨g0, g1, g2, g3⟩, g4, g5, g6⟩ := (hs4.incP hp4.blkT (.int .i64 ((kk : Int) + 1))).facts; clear hp4 hs4 hst4)
      | (go_at_call 43; refine (qah 10 pa0 _).mono ?_; rintro e9 w9 ⟨rfl, rfl⟩))
     have hbZ : Below B w (w4.setCell ⟨gp, 1, none⟩ (.int .i64 ((kk : Int) + 1))) := Below.setCell ((hbB.mono hB).trans hb4) hgp _;have hsZ : w.heap.size ≤ w4.heap.size := Nat.le_trans hzB hb4.size;exact ⟨rfl, qaj Y.out ⟨_, rfl, hsZ, qag _ _ _ (by simp)⟩, Below.alloc hbZ (by rw [World.size_setCell]; exact Nat.le_trans hB hsZ) _, (KeepY.incP ((KeepY.below hbB).trans hy4) HP4.out.blkT _).trans (KeepY.below (Below.alloc (Below.refl _ _) (Nat.le_refl _) _))⟩
    ·have Y := q4z (show qaz st (x0 :: l) kk = .ok st' by rw [HR.out, hr]; simp only; rw [if_neg h24])
     have h24' : decide ((24 : Int) < (kk : Int) + 1) = false := by rw [decide_eq_false_iff_not]; omega
     clear hr HR
     go_wp2_with (go_at_call 123; refine (qfr st l B gp gs b (o + 2) (lw - 1) pa0 c kk 0 (-1) ao wB h5 (fun x hx => by have := (hbd x hx).1; omega) (HPB.out.after hbB) (HST.out.after hbB) (Nat.le_trans hB hzB) hgp HSB.out ((HW.out.after hbB).drop 1) HGL.out hlo hhi (by omega) (by omega)).mono ?_; rintro e4 w4 ⟨ho4, hb4, hy4⟩; rw [HV.out] at ho4; obtain ⟨rfl, hs4, ao4, c4, hp4, hst4⟩ := ho4; have HP4 := q4z hp4; have HS4 := q4z hs4; have HT4 := q4z hst4; obtain ⟨p1, p2, p3, p4⟩ := hp4.blk2.facts; have hpl := hp4.lt; obtain ⟨⟨g0, g1, g2, g3⟩, g4, g5, g6⟩ := hs4.facts; obtain ⟨⟨g0, g1, g2, g3⟩, g4, g5, g6⟩ := (hs4.incP hp4.blkT (.int .i64 ((kk : Int) + 1))).facts; clear hp4 hs4 hst4)
     first | go_end0 | refine bodyPost_ret (results_none rfl _ _ _) rfl ?_
     exact ⟨qdt Y.out rfl rfl (HP4.out.inc (by omega)) (HT4.out.incP HP4.out.blkT _), Below.setCell ((hbB.mono hB).trans hb4) hgp _, KeepY.incP ((KeepY.below hbB).trans hy4) HP4.out.blkT _⟩
theorem FLastR.keep {B H : Nat} {w w' : World} {init : List StageG} {y : StageG} {gb c : Nat} {cs0 : List Value} {sv vv : Value} {scs : List Value} (h : FLastR B H w init y gb c cs0 sv vv scs) (h1 : KeepT qas w w') (h2 : KeepT qam w w') (h3 : KeepT qbh w w') (h4 : KeepT qbd w w') (h5 : KeepT qa4 w w') (hs : w.heap.size ≤ w'.heap.size) : FLastR B H w' init y gb c cs0 sv vv scs :=
 ⟨qan h.own h1, h.ini.stays h4 h5 (fun g cur _ e => h2 g cur e) (fun g cur _ e => h3 g cur e), qan h.steps h2, h.cells.keep h4 h5, qan h.vars h3, Nat.le_trans h.hH hs, h.hB⟩
theorem FLastR.incP {B H gp : Nat} {w : World} {init : List StageG} {y : StageG} {gb c : Nat} {cs0 : List Value} {sv vv : Value} {scs : List Value} (h : FLastR B H w init y gb c cs0 sv vv scs) (hb : BlkT w gp qdi) (v : Value) : FLastR B H (w.setCell ⟨gp, 1, none⟩ v) init y gb c cs0 sv vv scs :=
 h.keep (KeepT.setT hb (by decide) _ _) (KeepT.setT hb (by decide) _ _) (KeepT.setT hb (by decide) _ _) (KeepT.setT hb (by decide) _ _) (KeepT.setT hb (by decide) _ _) (by simp)
theorem FWordsR.incP {gp : Nat} {w : World} {A : Option Addr} {ws : List WordG} (h : FWordsR w A ws) (hb : BlkT w gp qdi) (v : Value) : FWordsR (w.setCell ⟨gp, 1, none⟩ v) A ws := h.keep (KeepT.setT hb (by decide) _ _) (KeepT.setT hb (by decide) _ _)
theorem qkc {B H gb c gp kk d : Nat} {w w2 : World} {init : List StageG} {y : StageG} {cs0 : List Value} {sv vv sv' : Value} {scs : List Value} {x : StepG} {A : Option Addr} (h : FLastR B H w init y gb c cs0 sv vv scs)
 (hp : PB w gp (some ⟨gb, 0, none⟩) (init.length + 1) c kk) (hx : FWordsR w A x.words) (hg : w.grownBy w2 sv.ownBlock)
 (hown : w2.ownsRow H qam 4 sv' (y.steps.length + 1) (scs ++ [.int .i64 (qdq x.op), .slice A x.words.length d, .int .i64 x.stage, .int .i64 x.at_])) :
 (FStagesR B (w2.setCell ⟨gb, init.length * 4 + 2, none⟩ sv') (init ++ [⟨y.name, y.base, y.steps ++ [x], y.vars⟩]) (some ⟨gb, 0, none⟩) c ∧ FKeepX w (w2.setCell ⟨gb, init.length * 4 + 2, none⟩ sv') ∧ Below B w (w2.setCell ⟨gb, init.length * 4 + 2, none⟩ sv')
   ∧ PB (w2.setCell ⟨gb, init.length * 4 + 2, none⟩ sv') gp (some ⟨gb, 0, none⟩) (init.length + 1) c kk) ∧
 (gb < w2.heap.size ∧ w2.cell? ⟨gb, init.length * 4 + 2, none⟩ = some sv ∧ w2.cell? ⟨gb, init.length * 4 + 3, none⟩ = some vv ∧ w2.frozen? ⟨gb, init.length * 4 + 2, none⟩ = false ∧ w2.frozen? ⟨gb, init.length * 4 + 3, none⟩ = false) ∧ PB w2 gp (some ⟨gb, 0, none⟩) (init.length + 1) c kk := by
 obtain ⟨scs', h1, h2, h3⟩ := h.pushStep hx hg hown;have hT : ∀ T, T ≠ qam → KeepT T w w2 := fun T hne => KeepT.grown hg h.steps (fun e => hne e.symm)
 exact ⟨⟨h1.stages, h2, h3, hp.keep (h2 _ (by decide) (by decide) (by decide))⟩, qqp (qan h.own (hT _ (by decide))) h.ini.len, hp.keep (hT _ (by decide))⟩
end Go.Proofs.YtikdblkfjchjbaaGreatDoor
