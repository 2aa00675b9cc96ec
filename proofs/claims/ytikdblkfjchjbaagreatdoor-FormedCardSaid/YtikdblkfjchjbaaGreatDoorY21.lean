import Derived.Test.YtikdblkfjchjbaaGreatDoorY20
set_option linter.unusedVariables false
set_option linter.unusedSimpArgs false
set_option maxHeartbeats 16000000
set_option maxRecDepth 100000
namespace Go.Proofs.YtikdblkfjchjbaaGreatDoor
open Go.RowKit
theorem q5b(st:List StageG)(l:List WordG)(B gp gs b o lc p c kk:Nat)(kd k0:Int)(ao:Option Addr)(w:World)(h5:st.length≤5)(hv5:∀x∈st,x.vars.length≤100)(hp:PB w gp ao st.length c kk)(hst:FStagesR B w st ao c)(hB:B≤w.heap.size)(hgp:B≤gp)
 (hs:SBlk w gs kd (some ⟨b,o,none⟩) l.length lc k0 p)(hw:FWordsR w (some ⟨b,o,none⟩) l)(hg:GoodW l)(hl1:1≤l.length)(hl3:l.length≤3)(hlc:l.length≤lc)(hlm:lc≤maxLen)(hl:l.length=3)(ha:(nth l 1).text=wAS)(hsb:qby (nth l 2).text=true):
 Calls Tryz.prog 123 #[.pointer (some ⟨gp,0,none⟩),.pointer (some ⟨gs,0,none⟩)] w fun e w'=>qls B gp gs kk l.length lc p kd k0 (some ⟨b,o,none⟩) w w' e (qdf st l p)∧Below B w w'∧KeepY w w':=by
 obtain⟨⟨s0,s1,s2,s3⟩,s4,s5,s6⟩:=hs.facts;have HS:=q6q hs;have HPB:=q6q hp;have HST:=q6q hst;obtain⟨cs,hso,hsc⟩:=hst.all;have HSO:=q6q hso;have HSC:=q6q hsc;have HV5:=q6q hv5;obtain⟨fa,fc,hb,m1,m2,ho⟩:=hw.one (k:=0) (by omega);rw[Nat.zero_mul,Nat.add_zero] at m1 m2;have hgx:=hg.nth 0 (by omega);have HStg:=q6q (show ∀wx:World,Below w.heap.size w wx→Calls Tryz.prog 151 #[.pointer (some ⟨gp,0,none⟩),.agg #[.slice fa (nth l 0).pl.length fc,.int .i64 (nth l 0).at_],.bool true] wx fun e w'=>qg5 wx w' e (nth l 0).at_ (qch st (nth l 0).text true)∧Below wx.heap.size wx w' from
  fun wx hb=>qhu st (nth l 0) true gp _ c kk 0 _ fc ao fa wx rfl h5 (hp.after hb) (hst.after hb).st hgx.1 hgx.2 rfl (qac ho hb))
 have htl:=Nat.le_trans (nth l 0).text_len hgx.2;have hl0:(0:Int)<(l.length:Int):=by omega
 have hl0n:0<l.length:=by omega
 have hgs0:=s6;obtain⟨fa1,fc1,hb1,n1,n2,ho1⟩:=hw.one (k:=1) (by omega);have hgx1:=hg.nth 1 (by omega);have HPl:=q6q (show ∀wx:World,Below w.heap.size w wx→Calls Tryz.prog 80 #[.agg #[.slice fa1 (nth l 1).pl.length fc1,.int .i64 (nth l 1).at_]] wx fun e w'=>e= .returned (.tuple #[.string (S (nth l 1).text),.bool (nth l 1).flat])∧Below wx.heap.size wx w' from
  fun wx hb=>qbu (nth l 1) fa1 fc1 0 _ wx hgx1.1 hgx1.2 rfl (qac ho1 hb))
 have htl1:=Nat.le_trans (nth l 1).text_len hgx1.2;have hli1:(1:Int)<(l.length:Int):=by omega
 have hbN0:Below w.heap.size w (w.alloc (.cells #[.string (S [])] qbl)):=(Below.refl _ _).alloc (Nat.le_refl _) _;obtain⟨fa2,fc2,hbw2,p1,p2,ho2⟩:=hw.one (k:=2) (by omega);have hgx2:=hg.nth 2 (by omega);have HSn:=q6q (show ∀wx:World,Below w.heap.size w wx→Calls Tryz.prog 150 #[.agg #[.slice fa2 (nth l 2).pl.length fc2,.int .i64 (nth l 2).at_]] wx fun e w'=>e= .returned (.string (S (snB (nth l 2).text)))∧Below wx.heap.size wx w' from
  fun wx hb=>qfp (nth l 2) fa2 fc2 0 _ wx hgx2.1 hgx2.2 rfl (qac ho2 hb))
 have htl2:=Nat.le_trans (nth l 2).text_len hgx2.2;have hli2:(2:Int)<(l.length:Int):=by omega
 have hnm:qhg l p= .ok (nth l 2).text:=by
  unfold qhg;rw[if_pos (by omega),if_neg (fun h=>h ha),if_neg (by omega),if_neg (by simp[hsb])]
 have HR1:=q6q (fun f hs=>qng (st:=st) (f:=f) hnm hs);have HR:=q6q (fun k hs=>qqp (st:=st) (k:=k) hnm hs);have HSN:=q6q (qru hsb);have hne0:(nth l 2).text≠[]:=by intro e;rw[e,qhv] at hsb;cases hsb
 have HNE:=q6q hne0;have hne':((nth l 2).text==[])=false:=by simpa using hne0
 have hie:(nth l 2).text.isEmpty=false:=by rw[List.isEmpty_eq_false_iff];exact hne0
 have h1':((nth l 1).text==[65,83])=true:=by rw[ha];rfl
 have h1'':((nth l 1).text != [65,83])=false:=by rw[ha];rfl
 have h2':((l.length:Int)==2)=false:=by rw[beq_eq_false_iff_ne];omega
 clear hs hw ho hgx hg hp hst hv5 hl hso hsc hnm ho1 hgx1 ho2 hgx2 ha hsb hne0;generalize (nth l 0).text=t0 at*;generalize (nth l 0).pl.length=q0 at*;generalize (nth l 0).at_=pa0 at*;generalize (nth l 1).text=t1 at*;generalize (nth l 1).pl.length=q1 at*;generalize (nth l 1).at_=pa1 at*;generalize (nth l 1).flat=fl1 at*;generalize (nth l 2).text=t2 at*;generalize (nth l 2).pl.length=q2 at*;generalize (nth l 2).at_=pa2 at*;go_enter Tryz.func123,Tryz.ntmps123;go_wp2_with (first
  |(go_at_call 80;refine(HPl.out _ hbN0).mono ?_;rintro e1 w1 ⟨rfl,hbp⟩;have hbW1:=hbN0.trans (hbp.mono hbN0.size);obtain⟨⟨s0,s1,s2,s3⟩,s4,s5,s6⟩:=(HS.out.after hbW1).facts;have n2W:=Below.cellAt hbW1 hb1 n2;have p1W:=Below.cellAt hbW1 hbw2 p1;have p2W:=Below.cellAt hbW1 hbw2 p2;have nm1:w1.cell? ⟨w.heap.size,0,none⟩=some (.string (S [])):=Below.cellAt hbp (by simp) (by simp);have nf1:w1.frozen? ⟨w.heap.size,0,none⟩=false:=(hbp.frozen (p:=⟨w.heap.size,0,none⟩) (by simp)).trans (by simp))
  |(go_at_call 150;refine(HSn.out _ hbW1).mono ?_;rintro e2 w2 ⟨rfl,hbq⟩;rw[HSN.out];have hbW2:=hbW1.trans (hbq.mono hbW1.size);obtain⟨⟨s0,s1,s2,s3⟩,s4,s5,s6⟩:=(HS.out.after hbW2).facts;have hnW1:w.heap.size<w1.heap.size:=q6r w1 _ nm1;have nm2:=Below.cellAt hbq hnW1 nm1;have nf2:w2.frozen? ⟨w.heap.size,0,none⟩=false:=(hbq.frozen (p:=⟨w.heap.size,0,none⟩) hnW1).trans nf1;have p2W:=Below.cellAt hbW2 hbw2 p2))
 have hbN:Below w.heap.size w (w2.setCell ⟨w.heap.size,0,none⟩ (.string (S t2))):=Below.setCell hbW2 (Nat.le_refl _) _;have hnW2:w.heap.size<w2.heap.size:=q6r w2 _ nm2;have nm:(w2.setCell ⟨w.heap.size,0,none⟩ (.string (S t2))).cell? ⟨w.heap.size,0,none⟩=some (.string (S t2)):=World.cell?_setCell_same' w2 _ _ (by rw[nm2];rfl);have hnl:w.heap.size<(w2.setCell ⟨w.heap.size,0,none⟩ (.string (S t2))).heap.size:=by rw[World.size_setCell];exact hnW2
 clear nm2 nf2 nm1 nf1 p1W p2W n2W s0 s1 s2 s3 s4 s5 s6;generalize hW:w2.setCell ⟨w.heap.size,0,none⟩ (.string (S t2))=wN at*;clear hW;have hwN:=hbN.size;have hbwN:b<wN.heap.size:=Nat.lt_of_lt_of_le hb hwN;have HB0:=q6q (Blk4.new wN (.string (S [])) (.int .i64 0) (.slice none 0 0) (.slice none 0 0) qas);have k1:=Below.cellAt hbN hb m1;have k2:=Below.cellAt hbN hb m2;have r2:=Below.cellAt hbN hbw2 p2;cases hr:qch st t0 true with
 |error f=>
  have Y:=q6q (show qdf st l p= .error (f,pa0) from HR1.out f hr);have HV:=q6q hr;clear hr HR HR1;go_region_dies
  all_goals
   go_at_call 151
   refine(HStg.out _ (by first|exact qab hbN|exact qab (hbN.alloc hwN _)|exact(qab hbN).alloc hwN _)).mono ?_;rintro e6 w6 ⟨ho6,hb6⟩;rw[HV.out] at ho6;obtain⟨n6,rfl,h6,h7⟩:=ho6;have hbN6:Below w.heap.size w w6:=by first|exact(qab hbN).trans (hb6.mono hwN)|exact(qab (hbN.alloc hwN _)).trans (hb6.mono (by simp;omega))
   have h6':w.heap.size≤n6:=by first|exact Nat.le_trans hwN h6|(simp at h6;omega)
   go_wp2;refine⟨rfl,qcl Y.out ⟨n6,rfl,h6',h7⟩,hbN6.mono hB,KeepY.below hbN6⟩
 |ok kq=>
  have hkq:=qpo hr;have HK:=q6q hkq;have HV:=q6q hr;have HR2:=q6q (show qdf st l p=if t2≠[]∧(t2=qcb∨0≤qan st t2) then .error (6,pa2) else if st.length=5 then .error (10,p) else .ok (st++[⟨t2,kq,[],qfw st kq⟩]) from HR.out kq hr);clear hr HR HR1 hkq;have ne1:wN.heap.size≠w.heap.size:=by omega
  have ne2:wN.heap.size≠b:=by omega
  go_region_held3 (fun w'=>w'.cell? ⟨w.heap.size,0,none⟩=some (.string (S t2))∧w'.cell? ⟨b,o,none⟩=some (.slice fa q0 fc)∧w'.cell? ⟨b,o+1,none⟩=some (.int .i64 pa0)) (go_keep) (first|(go_at_call 151;refine(HStg.out _ (by first|exact qab hbN|exact qab (hbN.alloc hwN _)|exact(qab hbN).alloc hwN _)).mono ?_;rintro e6 w6 ⟨ho6,hb6⟩;rw[HV.out] at ho6;obtain rfl:=ho6;have hbN6:Below w.heap.size w w6:=(by first|exact(qab hbN).trans (hb6.mono hwN)|exact(qab (hbN.alloc hwN _)).trans (hb6.mono (by simp;omega)));have nm6:w6.cell? ⟨w.heap.size,0,none⟩=some (.string (S t2)):=(by first|exact Below.cellAt hb6 (show w.heap.size<wN.drew.heap.size from hnl) nm|exact Below.cellAt hb6 (by simp;omega) ((World.cell?_alloc_lt _ _ _ hnl).trans nm));(first|(have hD:=Blk4.after HB0.out.drew hb6;obtain⟨d0,d1,d2,d3,d4,d5,d6,d7⟩:=hD.facts;have hDl:=hD.lt;have HD:=q6q hD)|skip);have k16:=Below.cellAt hbN6 hb m1;have k26:=Below.cellAt hbN6 hb m2;have hz6:=hbN6.size;have HN6:=q6q hb6.size))
  all_goals
   clear ne1 ne2
   first
    | (have hbS:=qrb hbN6 hwN (.string (S t2)) (.int .i64 kq) (.slice none 0 0) (.slice none 0 0)
       have HB9:=q6q (HD.out.four (.string (S t2)) (.int .i64 kq) (.slice none 0 0) (.slice none 0 0));have nmS:((((w6.setCell ⟨wN.heap.size,0,none⟩ (.string (S t2))).setCell ⟨wN.heap.size,1,none⟩ (.int .i64 kq)).setCell ⟨wN.heap.size,2,none⟩ (.slice none 0 0)).setCell ⟨wN.heap.size,3,none⟩ (.slice none 0 0)).cell? ⟨w.heap.size,0,none⟩=some (.string (S t2)):=by
        have hne:wN.heap.size≠w.heap.size:=by omega
        simp[World.cell?_setCell_far,hne,nm6]
       have hg9:w.heap.size<wN.heap.size:=hnl;clear d0 d1 d2 d3 d4 d5 d6 d7 hDl HD HB0;generalize hWS:(((w6.setCell ⟨wN.heap.size,0,none⟩ (.string (S t2))).setCell ⟨wN.heap.size,1,none⟩ (.int .i64 kq)).setCell ⟨wN.heap.size,2,none⟩ (.slice none 0 0)).setCell ⟨wN.heap.size,3,none⟩ (.slice none 0 0)=wS at*;generalize wN.heap.size=g9 at*;clear hWS)
    | (have hb6':Below wN.drew.heap.size wN.drew w6:=hb6
       have hbS:=hbN6.alloc hz6 (.cells #[.string (S t2),.int .i64 kq,.slice none 0 0,.slice none 0 0] qas);have HB9:=q6q (Blk4.new w6 (.string (S t2)) (.int .i64 kq) (.slice none 0 0) (.slice none 0 0) qas);have nmS:(w6.alloc (.cells #[.string (S t2),.int .i64 kq,.slice none 0 0,.slice none 0 0] qas)).cell? ⟨w.heap.size,0,none⟩=some (.string (S t2)):=(World.cell?_alloc_lt _ _ _ (q6r w6 _ nm6)).trans nm6;have hg9:w.heap.size<w6.heap.size:=q6r w6 _ nm6;generalize hWS:w6.alloc (.cells #[.string (S t2),.int .i64 kq,.slice none 0 0,.slice none 0 0] qas)=wS at*;generalize w6.heap.size=g9 at*;clear hWS)
   have hzS:=hbS.size;obtain⟨i0,hi0,hz0,hz1,hz2⟩:=info_parts (show(Tryz.prog.info? 118).map (fun i=>(i.zero,i.size,i.bytes))=some (some (.agg #[.string ByteArray.empty,.int .i64 0,.slice none 0 0,.slice none 0 0]),4,72) by kernel_rfl);clear k1 k2 nm hwN;obtain⟨pS1,pS2,pS3,pS4⟩:=(HPB.out.after hbS).blk2.facts;have hplS:=(HPB.out.after hbS).lt;obtain⟨⟨x0,x1,x2,x3⟩,x4,x5,x6⟩:=(HS.out.after hbS).facts;obtain⟨y0,y1,y2,y3,z0,z1,z2,z3⟩:=HB9.out.facts;have hl9:=HB9.out.lt;have r2S:=Below.cellAt hbS hbw2 p2;clear r2;by_cases hsc:t2=qcb
   ·have Y:=q6q (show qdf st l p= .error (6,pa2) by rw[HR2.out,if_pos ⟨HNE.out,.inl hsc⟩])
    have hsc':(t2==[115,99,114,97,116,99,104])=true:=by rw[hsc];rfl
    clear HR2 hsc;go_wp2_with (go_at_call 43;refine(qaf 6 pa2 _).mono ?_;rintro e9 w9 ⟨rfl,rfl⟩)
    refine⟨rfl,qcl Y.out ⟨_,rfl,hzS,heap_alloc_new _ _⟩,(hbS.mono hB).alloc (Nat.le_trans hB hzS) _,KeepY.below (hbS.alloc hzS _)⟩
   have hsc':(t2==[115,99,114,97,116,99,104])=false:=by rw[beq_eq_false_iff_ne];exact hsc
   cases hd:decide (0≤qan st t2) with
   |true=>
    have Y:=q6q (show qdf st l p= .error (6,pa2) by rw[HR2.out,if_pos ⟨HNE.out,.inr (of_decide_eq_true hd)⟩]);have HD:=q6q hd;clear HR2 hsc hd;go_wp2_with (first
     |(go_at_call 152;refine(qc6 st t2 ao _ c w.heap.size _ rfl h5 (HST.out.after hbS).st nmS).mono ?_;rintro e10 w10 ⟨rfl,hb10⟩;rw[HD.out];have hbT:=hbS.trans (hb10.mono hzS);obtain⟨pS1,pS2,pS3,pS4⟩:=(HPB.out.after hbT).blk2.facts;have hplS:=(HPB.out.after hbT).lt;obtain⟨⟨x0,x1,x2,x3⟩,x4,x5,x6⟩:=(HS.out.after hbT).facts;have HBT:=q6q (HB9.out.after hb10);obtain⟨y0,y1,y2,y3,z0,z1,z2,z3⟩:=HBT.out.facts;have hl9:=HBT.out.lt;have r2T:=Below.cellAt hbT hbw2 p2;have hzT:=hbT.size)
     |(go_at_call 43;refine(qaf 6 pa2 _).mono ?_;rintro e9 w9 ⟨rfl,rfl⟩))
    refine⟨rfl,qcl Y.out ⟨_,rfl,hzT,heap_alloc_new _ _⟩,(hbT.mono hB).alloc (Nat.le_trans hB hzT) _,KeepY.below (hbT.alloc hzT _)⟩
   |false=>
    have HR3:=q6q (show qdf st l p=if st.length=5 then .error (10,p) else .ok (st++[⟨t2,kq,[],qfw st kq⟩]) by rw[HR2.out,if_neg (fun h=>h.2.elim hsc (fun e=>of_decide_eq_false hd e))]);have HD:=q6q hd;clear HR2 hsc hd;by_cases h55:st.length=5
    ·have Y:=q6q (show qdf st l p= .error (10,p) by rw[HR3.out,if_pos h55])
     have h55':((st.length:Int)==5)=true:=by rw[beq_iff_eq];omega
     clear HR3 h55;go_wp2_with (first
      |(go_at_call 152;refine(qc6 st t2 ao _ c w.heap.size _ rfl h5 (HST.out.after hbS).st nmS).mono ?_;rintro e10 w10 ⟨rfl,hb10⟩;rw[HD.out];have hbT:=hbS.trans (hb10.mono hzS);obtain⟨pS1,pS2,pS3,pS4⟩:=(HPB.out.after hbT).blk2.facts;have hplS:=(HPB.out.after hbT).lt;obtain⟨⟨x0,x1,x2,x3⟩,x4,x5,x6⟩:=(HS.out.after hbT).facts;have HBT:=q6q (HB9.out.after hb10);obtain⟨y0,y1,y2,y3,z0,z1,z2,z3⟩:=HBT.out.facts;have hl9:=HBT.out.lt;have r2T:=Below.cellAt hbT hbw2 p2;have hzT:=hbT.size)
      |(go_at_call 43;refine(qaf 10 p _).mono ?_;rintro e9 w9 ⟨rfl,rfl⟩))
     refine⟨rfl,qcl Y.out ⟨_,rfl,hzT,heap_alloc_new _ _⟩,(hbT.mono hB).alloc (Nat.le_trans hB hzT) _,KeepY.below (hbT.alloc hzT _)⟩
    ·have h55':((st.length:Int)==5)=false:=by rw[beq_eq_false_iff_ne];omega
     have hlt5:st.length<5:=by omega
     rcases qe0 st t0 with hk|⟨kn,hkl,hk⟩
     ·obtain rfl:kq= -1:=by rw[HK.out];exact hk
      have Y:=q6q (show qdf st l p= .ok (st++[⟨t2,-1,[],[]⟩]) by rw[HR3.out,if_neg h55,qjp (by omega)]);clear HR3 hk h55;go_wp2_with (go_at_call 152;refine(qc6 st t2 ao _ c w.heap.size _ rfl h5 (HST.out.after hbS).st nmS).mono ?_;rintro e10 w10 ⟨rfl,hb10⟩;rw[HD.out];have hbT:=hbS.trans (hb10.mono hzS);obtain⟨pS1,pS2,pS3,pS4⟩:=(HPB.out.after hbT).blk2.facts;have hplS:=(HPB.out.after hbT).lt;obtain⟨⟨x0,x1,x2,x3⟩,x4,x5,x6⟩:=(HS.out.after hbT).facts;have HBT:=q6q (HB9.out.after hb10);obtain⟨y0,y1,y2,y3,z0,z1,z2,z3⟩:=HBT.out.facts;have hl9:=HBT.out.lt;have r2T:=Below.cellAt hbT hbw2 p2;have hzT:=hbT.size)
      have hbX:=hbT;have hzX:=hzT;have HVV:=q6q (World.ownsRow_nil w10 w.heap.size qbl 1);have HVA:=q6q (fun o:Obj=>qac HVV.out (show Below w10.heap.size w10 (w10.drew.alloc o) from Below.alloc (qab (Below.refl _ _)) (Nat.le_refl _) o))
      go_region_law (refine step_append_lies _ (by rfl) (.tmp 109) (.tmp 111) 101 (by rfl) B qas i0 (.agg #[.string ByteArray.empty,.int .i64 0,.slice none 0 0,.slice none 0 0]) 4 72 Tryz.underlying101 hi0 hz0 hz1 hz2 (by rfl) (by decide) (.slice ao st.length c) st.length cs (by rfl) (qac HSO.out (Below.alloc (qab hbX) hzX _)) ⟨_,0,none⟩ 1 1 [.string (S t2),.int .i64 (-1),.slice none 0 0,.slice none 0 0] (by rfl) (by rfl) (qdn _ _ _ _ _ _ _ (by simp)) (by simp[Value.oneCell']) (by decide) (by unfold maxLen;omega) (by omega) (by simp;omega) _ (by rfl) ?_;intro g' c' w7 hown7 hgr7 _ _;obtain⟨PS,PP⟩:=qkm (vs:=[]) HSO.out HSC.out HPB.out HS.out (Below.alloc (qab hbX) hzX _) hgr7 (HVA.out _) hown7 hB hgp;have PS:=q6q PS;obtain⟨v1,v2,v3,v4⟩:=PP.blk2.facts;clear hown7 hgr7 PP)
      all_goals
       go_wp2
       first|go_end0|refine bodyPost_ret (results_none rfl _ _ _) rfl ?_
       obtain⟨P1,P2,P3,P4,P5⟩:=PS.out;refine⟨?_,P5,P4⟩;rw[Y.out];exact⟨rfl,P3,_,_,by rw[List.length_append];exact P2,P1⟩
     ·obtain rfl:kq=(kn:Int):=by rw[HK.out];exact hk
      obtain⟨b2,o2,va,vc,rfl,hb2,m4,hov⟩:=HST.out.cellsAt hkl;have Y:=q6q (show qdf st l p= .ok (st++[⟨t2,(kn:Int),[],st[kn].vars⟩]) by rw[HR3.out,if_neg h55,qkw hkl]);have hvl:st[kn].vars.length≤100:=HV5.out _ (List.getElem_mem hkl);have HCl:=q6q (show ∀wx:World,Below w.heap.size w wx→Calls Tryz.prog 154 #[.slice va st[kn].vars.length vc] wx fun e w'=>(∃A' c',e= .returned (.slice A' st[kn].vars.length c')∧w'.ownsRow wx.heap.size qbl 1 (.slice A' st[kn].vars.length c') st[kn].vars.length (strs st[kn].vars))∧Below wx.heap.size wx w' from
       fun wx hb=>qnp st[kn].vars va _ vc 0 wx rfl (by omega) (qac hov hb))
      have hkni:(kn:Int)<(st.length:Int):=by omega
      have M4:=q6q m4;have HG9:=q6q HB9.out.lt;clear HR3 hk hov m4 h55;go_wp2_with (go_at_call 152;refine(qc6 st t2 (some ⟨b2,o2,none⟩) _ c w.heap.size _ rfl h5 (HST.out.after hbS).st nmS).mono ?_;rintro e10 w10 ⟨rfl,hb10⟩;rw[HD.out];have hbT:=hbS.trans (hb10.mono hzS);obtain⟨pS1,pS2,pS3,pS4⟩:=(HPB.out.after hbT).blk2.facts;have hplS:=(HPB.out.after hbT).lt;obtain⟨⟨x0,x1,x2,x3⟩,x4,x5,x6⟩:=(HS.out.after hbT).facts;have HBT:=q6q (HB9.out.after hb10);obtain⟨y0,y1,y2,y3,z0,z1,z2,z3⟩:=HBT.out.facts;have hl9:=HBT.out.lt;have r2T:=Below.cellAt hbT hbw2 p2;have hzT:=hbT.size;have m4S:=Below.cellAt hbT hb2 M4.out)
      go_region_law (go_simp;go_at_call 154;refine(HCl.out _ (qab hbT)).mono ?_;rintro e8 w8 ⟨⟨A8,c8,rfl,ho8⟩,hb8⟩;have HB8:=q6q (HBT.out.drew.after hb8);obtain⟨y0,y1,y2,y3,z0,z1,z2,z3⟩:=HB8.out.facts;have hl9:=HB8.out.lt;have HO8:=q6q ho8;have HE8:=q6q hb8;clear ho8 hb8)
      all_goals
       have hbX:Below w.heap.size w (w8.setCell ⟨g9,3,none⟩ (.slice A8 st[kn].vars.length c8)):=Below.setCell ((qab hbT).trans (HE8.out.mono hzT)) (Nat.le_of_lt hg9) _;have HBZ:=q6q (HB8.out.set3 (.slice A8 st[kn].vars.length c8));have HVV:=q6q (qak (ownsRow_setCell_below HO8.out (a:=⟨g9,3,none⟩) HBT.out.lt (.slice A8 st[kn].vars.length c8)) hzT);clear y0 y1 y2 y3 z0 z1 z2 z3 hl9 HB8 HO8 HE8 pS1 pS2 pS3 pS4 hplS x0 x1 x2 x3 x4 x5 x6 m4S r2T r2S;generalize hWZ:w8.setCell ⟨g9,3,none⟩ (.slice A8 st[kn].vars.length c8)=wz at*;clear hWZ;have hzX:=hbX.size;obtain⟨pS1,pS2,pS3,pS4⟩:=(HPB.out.after hbX).blk2.facts;have hplS:=(HPB.out.after hbX).lt
       obtain⟨⟨x0,x1,x2,x3⟩,x4,x5,x6⟩:=(HS.out.after hbX).facts;obtain⟨y0,y1,y2,y3,z0,z1,z2,z3⟩:=HBZ.out.facts;have hl9:=HBZ.out.lt;go_wp2;have HVA:=q6q (fun o:Obj=>qac HVV.out (show Below wz.heap.size wz (wz.drew.alloc o) from Below.alloc (qab (Below.refl _ _)) (Nat.le_refl _) o))
       go_region_law (refine step_append_lies _ (by rfl) (.tmp 109) (.tmp 111) 101 (by rfl) B qas i0 (.agg #[.string ByteArray.empty,.int .i64 0,.slice none 0 0,.slice none 0 0]) 4 72 Tryz.underlying101 hi0 hz0 hz1 hz2 (by rfl) (by decide) (.slice (some ⟨b2,o2,none⟩) st.length c) st.length cs (by rfl) (qac HSO.out (Below.alloc (qab hbX) hzX _)) ⟨_,0,none⟩ 1 1 [.string (S t2),.int .i64 (kn:Int),.slice none 0 0,.slice A8 st[kn].vars.length c8] (by rfl) (by rfl) (qdn _ _ _ _ _ _ _ (by simp)) (by simp[Value.oneCell']) (by decide) (by unfold maxLen;omega) (by omega) (by simp;omega) _ (by rfl) ?_;intro g' c' w7 hown7 hgr7 _ _;obtain⟨PS,PP⟩:=qkm (vs:=st[kn].vars) HSO.out HSC.out HPB.out HS.out (Below.alloc (qab hbX) hzX _) hgr7 (HVA.out _) hown7 hB hgp;have PS:=q6q PS;obtain⟨v1,v2,v3,v4⟩:=PP.blk2.facts;clear hown7 hgr7 PP)
       all_goals
        go_wp2
        first|go_end0|refine bodyPost_ret (results_none rfl _ _ _) rfl ?_
        obtain⟨P1,P2,P3,P4,P5⟩:=PS.out;refine⟨?_,P5,P4⟩;rw[Y.out];exact⟨rfl,P3,_,_,by rw[List.length_append];exact P2,P1⟩
theorem qf8(st:List StageG)(l:List WordG)(B gp gs b o lc p c kk:Nat)(kd k0:Int)(ao:Option Addr)(w:World)(h5:st.length≤5)(hv5:∀x∈st,x.vars.length≤100)(hp:PB w gp ao st.length c kk)(hst:FStagesR B w st ao c)(hB:B≤w.heap.size)(hgp:B≤gp)
 (hs:SBlk w gs kd (some ⟨b,o,none⟩) l.length lc k0 p)(hw:FWordsR w (some ⟨b,o,none⟩) l)(hg:GoodW l)(hl1:1≤l.length)(hl3:l.length≤3)(hlc:l.length≤lc)(hlm:lc≤maxLen):
 Calls Tryz.prog 123 #[.pointer (some ⟨gp,0,none⟩),.pointer (some ⟨gs,0,none⟩)] w fun e w'=>qls B gp gs kk l.length lc p kd k0 (some ⟨b,o,none⟩) w w' e (qdf st l p)∧Below B w w'∧KeepY w w':=by
 by_cases h1:l.length=1
 ·exact q5c st l B gp gs b o lc p c kk kd k0 ao w h5 hv5 hp hst hB hgp hs hw hg hl1 hl3 hlc hlm h1
 ·by_cases ha:(nth l 1).text=wAS
  ·by_cases h2:l.length=2
   ·exact qsy st l B gp gs b o lc p c kk kd k0 ao w h5 hv5 hp hst hB hgp hs hw hg hl1 hl3 hlc hlm (by omega) (5,p) (by unfold qhg;rw[if_pos (by omega),if_neg (fun h=>h ha),if_pos h2])
   ·cases hsb:qby (nth l 2).text with
    |false=>exact qsy st l B gp gs b o lc p c kk kd k0 ao w h5 hv5 hp hst hB hgp hs hw hg hl1 hl3 hlc hlm (by omega) (5,(nth l 2).at_) (by unfold qhg;rw[if_pos (by omega),if_neg (fun h=>h ha),if_neg h2,if_pos hsb])
    |true=>exact q5b st l B gp gs b o lc p c kk kd k0 ao w h5 hv5 hp hst hB hgp hs hw hg hl1 hl3 hlc hlm (by omega) ha hsb
  ·exact qsy st l B gp gs b o lc p c kk kd k0 ao w h5 hv5 hp hst hB hgp hs hw hg hl1 hl3 hlc hlm (by omega) (5,(nth l 1).at_) (by unfold qhg;rw[if_pos (by omega),if_pos ha])
end Go.Proofs.YtikdblkfjchjbaaGreatDoor
