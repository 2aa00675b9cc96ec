import Derived.Test.YtikdblkfjchjbaaGreatDoorY21
set_option linter.unusedVariables false
set_option linter.unusedSimpArgs false
set_option maxHeartbeats 16000000
set_option maxRecDepth 100000
namespace Go.Proofs.YtikdblkfjchjbaaGreatDoor
open Go.RowKit
variable{w w':World}{gp c B n H gb k:Nat}{ao A:Option Addr}{y:StageG}{cs0 scs:List Value}{sv vv:Value}
theorem PB.inc(h:PB w gp ao n c k){v:Int}(hv:v=((k+1:Nat):Int)):PB (w.setCell ⟨gp,1,none⟩ (.int .i64 v)) gp ao n c (k+1):=by
 subst hv;exact heap_setCell_same w gp 1 _ _ _ h
theorem PB.blkT(h:PB w gp ao n c k):BlkT w gp qd7:=⟨_,h⟩
theorem FStagesR.incP{st:List StageG}(h:FStagesR B w st ao c)(hb:BlkT w gp qd7)(v:Value):FStagesR B (w.setCell ⟨gp,1,none⟩ v) st ao c:=
 h.keep (KeepT.setT hb (by decide) _ _) (KeepT.setT hb (by decide) _ _) (KeepT.setT hb (by decide) _ _) (KeepT.setT hb (by decide) _ _) (KeepT.setT hb (by decide) _ _) (by simp)
theorem SBlk.incP{gs:Nat}{kd:Int}{k:Int}{p:Nat}(h:SBlk w gs kd A n c k p)(hb:BlkT w gp qd7)(v:Value):SBlk (w.setCell ⟨gp,1,none⟩ v) gs kd A n c k p:=h.keep (KeepT.setT hb (by decide) _ _)
theorem KeepY.incP(h:KeepY w w')(hb:BlkT w' gp qd7)(v:Value):KeepY w (w'.setCell ⟨gp,1,none⟩ v):=fun T a b c d=>(h T a b c d).trans (KeepT.setT hb (fun e=>d e.symm) _ _)
theorem qst(st:List StageG)(x0:WordG)(l:List WordG)(B gp b o lw c kk:Nat)(ao:Option Addr)(w:World)(h5:st.length≤5)(hbd:StB 50 st)(hk24:kk≤24)(hp:PB w gp ao st.length c kk)(hst:FStagesR B w st ao c)(hB:B≤w.heap.size)(hgp:B≤gp)(hord:Ord w)
 (hw:FWordsR w (some ⟨b,o,none⟩) (x0::l))(hg:GoodW (x0::l))(hl4:l.length+1≤2000)(hlc:l.length+1≤lw)(hlm:lw≤maxLen)(ht:x0.text=qcq)(hlo:1≤l.length)(hhi:l.length≤3):
 Calls Tryz.prog 45 #[.pointer (some ⟨gp,0,none⟩),.slice (some ⟨b,o,none⟩) (l.length+1) lw] w fun e w'=>qdz B gp kk w w' e (qay st (x0::l) kk)∧Below B w w'∧KeepY w w':=by
 have HPB:=q6q hp;have HST:=q6q hst;have HW:=q6q hw;have HGL:=q6q (show GoodW l from fun x hx=>hg x (List.mem_cons_of_mem _ hx));have HO:=q6q hord;obtain⟨fa,fc,hb,m1,m2,ho⟩:=hw.one (k:=0) (by simp);rw[Nat.zero_mul,Nat.add_zero] at m1 m2;rw[show nth (x0::l) 0=x0 from rfl] at m1 m2 ho;have hgx:GoodA x0.l∧x0.l.length≤2000:=hg x0 (by simp);have HPl:=q6q (show ∀wx:World,Below w.heap.size w wx→Calls Tryz.prog 80 #[.agg #[.slice fa x0.pl.length fc,.int .i64 x0.at_]] wx fun e w'=>e= .returned (.tuple #[.string (S x0.text),.bool x0.flat])∧Below wx.heap.size wx w' from
  fun wx hb=>qbu x0 fa fc 0 _ wx hgx.1 hgx.2 rfl (qac ho hb))
 have hl0:(0:Int)<(l.length:Int)+1:=by omega
 have hl1':(1:Int)≤(l.length:Int)+1:=by omega
 have hlc':(l.length:Int)+1≤(lw:Int):=by omega
 have hlw:¬lw=1:=by omega
 obtain⟨hf1,hf2,hf3,hfv,_⟩:=qqs;rw[←ht] at hf1 hf2 hf3;have hr0:=qsp (st:=st) (ws:=x0::l) (n:=kk) hf3 (by rintro(h|h|h);exact h.2 ht;simp at h;omega;simp at h;omega) ht;rw[qwr] at hr0;have HR:=q6q (show qay st (x0::l) kk=(match qdf st l x0.at_ with|.error f=> .error f|.ok st'=>if 24<kk+1 then .error (10,x0.at_) else .ok st') from hr0);have HFR:=q6q hf1;have HKD:=q6q hf2;clear hf1 hf2 hf3 ht hr0;clear hp hst hw hg hord ho hgx;generalize x0.text=t0 at*;generalize x0.pl.length=q0 at*;generalize x0.at_=pa0 at*;generalize x0.flat=fl0 at*;have hk0:kk+1≤9223372036854775807:=by omega
 have hk0':(kk:Int)+1=((kk+1:Nat):Int):=by omega
 have hlo2:decide (l.length<1)=false:=by rw[decide_eq_false_iff_not];omega
 have hhi2:decide (3<l.length)=false:=by rw[decide_eq_false_iff_not];omega
 have hlo3:¬l.length<1:=by omega
 have hhi3:¬3<l.length:=by omega
 clear hk0';have hnf:∀w:World,(binOp .neq 176 (.func (Fn.func 123) #[] #[]) .nilFunc).run Tryz.prog w= .ok (.bool true) w:=fun _=>by kernel_rfl
 by_cases hst0:st.length=0
 ·have hs0:((st.length:Int)==0)=true:=by rw[beq_iff_eq];omega
  clear hst0;go_enter Tryz.func45,Tryz.ntmps45;go_wp2_with (first
   |(go_at_call 80;refine(HPl.out _ (Below.refl _ _)).mono ?_;rintro e1 w1 ⟨rfl,hb1⟩;have hO1:=q6q (HO.out.after hb1))
   |(go_at_call 81;refine(qau t0 _ hO1.out).mono ?_;rintro e2 w2 ⟨rfl,hb2⟩;rw[HFR.out];have hb12:=hb1.trans (hb2.mono hb1.size)))
  have hbA:Below w.heap.size w (w2.alloc (.cells #[.string (S t0),.int .i64 1,.int .i64 3,.func (Fn.func 123) #[] #[]] qa1)):=hb12.alloc hb12.size _;have HFB:=q6q (Blk4.new w2 (.string (S t0)) (.int .i64 1) (.int .i64 3) (.func (Fn.func 123) #[] #[]) qa1);have hgf:w.heap.size≤w2.heap.size:=hb12.size;generalize hWA:w2.alloc (.cells #[.string (S t0),.int .i64 1,.int .i64 3,.func (Fn.func 123) #[] #[]] qa1)=wA at*;generalize w2.heap.size=gf at*;clear hWA hb12 hb1 hb2 hO1;have k2A:=Below.cellAt hbA hb m2;have hOA:=q6q (HO.out.after hbA);have hzA:=hbA.size;obtain⟨p1,p2,p3,p4⟩:=(HPB.out.after (qab hbA)).blk2.facts;have hpl:=(HPB.out.after hbA).lt
  obtain⟨f0,f1,f2,f3,_,_,_,_⟩:=HFB.out.facts;have hfl:=HFB.out.lt;have hpA:wA.cell? ⟨gp,0,none⟩=some (.slice ao st.length c):=(HPB.out.after hbA).blk2.facts.1;go_region_held3 (fun w'=>w'.cell? ⟨b,o+1,none⟩=some (.int .i64 pa0)) (go_keep) (first|(go_at_call 82;refine(qam t0 _ (by first|exact hOA.out.after (qab (Below.refl _ _))|exact hOA.out.after (qab (Below.alloc (Below.refl _ _) (Nat.le_refl _) _)))).mono ?_;rintro e3 w3 ⟨rfl,rfl⟩;rw[HKD.out]))
  all_goals
   have hbB:Below w.heap.size w (wA.alloc (.cells #[.int .i64 0,.slice (some ⟨b,o+2,none⟩) l.length (lw - 1),.int .i64 (-1),.int .i64 pa0] qai)).drew:=qab (hbA.alloc hzA _);have HSB:=q6q (show SBlk (wA.alloc (.cells #[.int .i64 0,.slice (some ⟨b,o+2,none⟩) l.length (lw - 1),.int .i64 (-1),.int .i64 pa0] qai)).drew wA.heap.size 0 (some ⟨b,o+2,none⟩) l.length (lw - 1) (-1) pa0 from⟨heap_alloc_new wA _⟩);have HFX:=q6q (Blk4.drew (HFB.out.alloc' (.cells #[.int .i64 0,.slice (some ⟨b,o+2,none⟩) l.length (lw - 1),.int .i64 (-1),.int .i64 pa0] qai)));have hgs:w.heap.size≤wA.heap.size:=hzA;clear f0 f1 f2 f3 hfl p1 p2 p3 p4 hpl hpA k2A
   generalize hWB:(wA.alloc (.cells #[.int .i64 0,.slice (some ⟨b,o+2,none⟩) l.length (lw - 1),.int .i64 (-1),.int .i64 pa0] qai)).drew=wB at*;generalize wA.heap.size=gs at*;clear hWB;have hzB:=hbB.size;obtain⟨p1,p2,p3,p4⟩:=(HPB.out.after hbB).blk2.facts;have hpl:=(HPB.out.after hbB).lt;obtain⟨f0,f1,f2,f3,_,_,_,_⟩:=HFX.out.facts;have hfl:=HFX.out.lt;obtain⟨⟨g0,g1,g2,g3⟩,g4,g5,g6⟩:=HSB.out.facts;cases hr:qdf st l pa0 with
   |error fp=>
    obtain⟨f4,p4'⟩:=fp;have Y:=q6q (show qay st (x0::l) kk= .error (f4,p4') by rw[HR.out,hr]);have HV:=q6q hr;clear hr HR;go_wp2_with (go_at_call 123;refine(qf8 st l B gp gs b (o+2) (lw - 1) pa0 c kk 0 (-1) ao wB h5 (fun x hx=>by have:=(hbd x hx).1;omega) (HPB.out.after hbB) (HST.out.after hbB) (Nat.le_trans hB hzB) hgp HSB.out ((HW.out.after hbB).drop 1) HGL.out hlo hhi (by omega) (by omega)).mono ?_;rintro e4 w4 ⟨ho4,hb4,hy4⟩;rw[HV.out] at ho4;obtain⟨n6,rfl,h6,h7⟩:=ho4)
    exact⟨rfl,qah Y.out ⟨n6,rfl,Nat.le_trans hzB h6,h7⟩,(hbB.mono hB).trans hb4,(KeepY.below hbB).trans hy4⟩
   |ok st'=>
    have HV:=q6q hr;by_cases h24:24<kk+1
    ·have Y:=q6q (show qay st (x0::l) kk= .error (10,pa0) by rw[HR.out,hr];simp only;rw[if_pos h24])
     have h24':(24:Int)<(kk:Int)+1:=by omega
     clear hr HR;go_wp2_with (first
      |(go_at_call 123;refine(qf8 st l B gp gs b (o+2) (lw - 1) pa0 c kk 0 (-1) ao wB h5 (fun x hx=>by have:=(hbd x hx).1;omega) (HPB.out.after hbB) (HST.out.after hbB) (Nat.le_trans hB hzB) hgp HSB.out ((HW.out.after hbB).drop 1) HGL.out hlo hhi (by omega) (by omega)).mono ?_;rintro e4 w4 ⟨ho4,hb4,hy4⟩;rw[HV.out] at ho4;obtain⟨rfl,hs4,ao4,c4,hp4,hst4⟩:=ho4;have HP4:=q6q hp4;have HS4:=q6q hs4;have HT4:=q6q hst4;obtain⟨p1,p2,p3,p4⟩:=hp4.blk2.facts;have hpl:=hp4.lt;obtain⟨⟨g0,g1,g2,g3⟩,g4,g5,g6⟩:=hs4.facts;obtain⟨⟨g0,g1,g2,g3⟩,g4,g5,g6⟩:=(hs4.incP hp4.blkT (.int .i64 ((kk:Int)+1))).facts;clear hp4 hs4 hst4)
      |(go_at_call 43;refine(qaf 10 pa0 _).mono ?_;rintro e9 w9 ⟨rfl,rfl⟩))
     have hbZ:Below B w (w4.setCell ⟨gp,1,none⟩ (.int .i64 ((kk:Int)+1))):=Below.setCell ((hbB.mono hB).trans hb4) hgp _;have hsZ:w.heap.size≤w4.heap.size:=Nat.le_trans hzB hb4.size;exact⟨rfl,qah Y.out ⟨_,rfl,hsZ,qae _ _ _ (by simp)⟩,Below.alloc hbZ (by rw[World.size_setCell];exact Nat.le_trans hB hsZ) _,(KeepY.incP ((KeepY.below hbB).trans hy4) HP4.out.blkT _).trans (KeepY.below (Below.alloc (Below.refl _ _) (Nat.le_refl _) _))⟩
    ·have Y:=q6q (show qay st (x0::l) kk= .ok st' by rw[HR.out,hr];simp only;rw[if_neg h24])
     have h24':decide ((24:Int)<(kk:Int)+1)=false:=by rw[decide_eq_false_iff_not];omega
     clear hr HR
     go_wp2_with (go_at_call 123;refine(qf8 st l B gp gs b (o+2) (lw - 1) pa0 c kk 0 (-1) ao wB h5 (fun x hx=>by have:=(hbd x hx).1;omega) (HPB.out.after hbB) (HST.out.after hbB) (Nat.le_trans hB hzB) hgp HSB.out ((HW.out.after hbB).drop 1) HGL.out hlo hhi (by omega) (by omega)).mono ?_;rintro e4 w4 ⟨ho4,hb4,hy4⟩;rw[HV.out] at ho4;obtain⟨rfl,hs4,ao4,c4,hp4,hst4⟩:=ho4;have HP4:=q6q hp4;have HS4:=q6q hs4;have HT4:=q6q hst4;obtain⟨p1,p2,p3,p4⟩:=hp4.blk2.facts;have hpl:=hp4.lt;obtain⟨⟨g0,g1,g2,g3⟩,g4,g5,g6⟩:=hs4.facts;obtain⟨⟨g0,g1,g2,g3⟩,g4,g5,g6⟩:=(hs4.incP hp4.blkT (.int .i64 ((kk:Int)+1))).facts;clear hp4 hs4 hst4)
     first|go_end0|refine bodyPost_ret (results_none rfl _ _ _) rfl ?_
     exact⟨qee Y.out rfl rfl (HP4.out.inc (by omega)) (HT4.out.incP HP4.out.blkT _),Below.setCell ((hbB.mono hB).trans hb4) hgp _,KeepY.incP ((KeepY.below hbB).trans hy4) HP4.out.blkT _⟩
 ·have hs0:((st.length:Int)==0)=false:=by rw[beq_eq_false_iff_ne];omega
  clear hst0;go_enter Tryz.func45,Tryz.ntmps45;go_wp2_with (first
   |(go_at_call 80;refine(HPl.out _ (Below.refl _ _)).mono ?_;rintro e1 w1 ⟨rfl,hb1⟩;have hO1:=q6q (HO.out.after hb1))
   |(go_at_call 81;refine(qau t0 _ hO1.out).mono ?_;rintro e2 w2 ⟨rfl,hb2⟩;rw[HFR.out];have hb12:=hb1.trans (hb2.mono hb1.size)))
  have hbA:Below w.heap.size w (w2.alloc (.cells #[.string (S t0),.int .i64 1,.int .i64 3,.func (Fn.func 123) #[] #[]] qa1)):=hb12.alloc hb12.size _;have HFB:=q6q (Blk4.new w2 (.string (S t0)) (.int .i64 1) (.int .i64 3) (.func (Fn.func 123) #[] #[]) qa1);have hgf:w.heap.size≤w2.heap.size:=hb12.size;generalize hWA:w2.alloc (.cells #[.string (S t0),.int .i64 1,.int .i64 3,.func (Fn.func 123) #[] #[]] qa1)=wA at*;generalize w2.heap.size=gf at*;clear hWA hb12 hb1 hb2 hO1;have k2A:=Below.cellAt hbA hb m2;have hOA:=q6q (HO.out.after hbA);have hzA:=hbA.size;obtain⟨p1,p2,p3,p4⟩:=(HPB.out.after (qab hbA)).blk2.facts;have hpl:=(HPB.out.after hbA).lt
  obtain⟨f0,f1,f2,f3,_,_,_,_⟩:=HFB.out.facts;have hfl:=HFB.out.lt;have hpA:wA.cell? ⟨gp,0,none⟩=some (.slice ao st.length c):=(HPB.out.after hbA).blk2.facts.1;go_region_held3 (fun w'=>w'.cell? ⟨b,o+1,none⟩=some (.int .i64 pa0)) (go_keep) (first|(go_at_call 82;refine(qam t0 _ (by first|exact hOA.out.after (qab (Below.refl _ _))|exact hOA.out.after (qab (Below.alloc (Below.refl _ _) (Nat.le_refl _) _)))).mono ?_;rintro e3 w3 ⟨rfl,rfl⟩;rw[HKD.out]))
  all_goals
   have hbB:Below w.heap.size w (wA.alloc (.cells #[.int .i64 0,.slice (some ⟨b,o+2,none⟩) l.length (lw - 1),.int .i64 (-1),.int .i64 pa0] qai)).drew:=qab (hbA.alloc hzA _);have HSB:=q6q (show SBlk (wA.alloc (.cells #[.int .i64 0,.slice (some ⟨b,o+2,none⟩) l.length (lw - 1),.int .i64 (-1),.int .i64 pa0] qai)).drew wA.heap.size 0 (some ⟨b,o+2,none⟩) l.length (lw - 1) (-1) pa0 from⟨heap_alloc_new wA _⟩);have HFX:=q6q (Blk4.drew (HFB.out.alloc' (.cells #[.int .i64 0,.slice (some ⟨b,o+2,none⟩) l.length (lw - 1),.int .i64 (-1),.int .i64 pa0] qai)));have hgs:w.heap.size≤wA.heap.size:=hzA;clear f0 f1 f2 f3 hfl p1 p2 p3 p4 hpl hpA k2A
   generalize hWB:(wA.alloc (.cells #[.int .i64 0,.slice (some ⟨b,o+2,none⟩) l.length (lw - 1),.int .i64 (-1),.int .i64 pa0] qai)).drew=wB at*;generalize wA.heap.size=gs at*;clear hWB;have hzB:=hbB.size;obtain⟨p1,p2,p3,p4⟩:=(HPB.out.after hbB).blk2.facts;have hpl:=(HPB.out.after hbB).lt;obtain⟨f0,f1,f2,f3,_,_,_,_⟩:=HFX.out.facts;have hfl:=HFX.out.lt;obtain⟨⟨g0,g1,g2,g3⟩,g4,g5,g6⟩:=HSB.out.facts;cases hr:qdf st l pa0 with
   |error fp=>
    obtain⟨f4,p4'⟩:=fp;have Y:=q6q (show qay st (x0::l) kk= .error (f4,p4') by rw[HR.out,hr]);have HV:=q6q hr;clear hr HR;go_wp2_with (go_at_call 123;refine(qf8 st l B gp gs b (o+2) (lw - 1) pa0 c kk 0 (-1) ao wB h5 (fun x hx=>by have:=(hbd x hx).1;omega) (HPB.out.after hbB) (HST.out.after hbB) (Nat.le_trans hB hzB) hgp HSB.out ((HW.out.after hbB).drop 1) HGL.out hlo hhi (by omega) (by omega)).mono ?_;rintro e4 w4 ⟨ho4,hb4,hy4⟩;rw[HV.out] at ho4;obtain⟨n6,rfl,h6,h7⟩:=ho4)
    exact⟨rfl,qah Y.out ⟨n6,rfl,Nat.le_trans hzB h6,h7⟩,(hbB.mono hB).trans hb4,(KeepY.below hbB).trans hy4⟩
   |ok st'=>
    have HV:=q6q hr;by_cases h24:24<kk+1
    ·have Y:=q6q (show qay st (x0::l) kk= .error (10,pa0) by rw[HR.out,hr];simp only;rw[if_pos h24])
     have h24':(24:Int)<(kk:Int)+1:=by omega
     clear hr HR;go_wp2_with (first
      |(go_at_call 123;refine(qf8 st l B gp gs b (o+2) (lw - 1) pa0 c kk 0 (-1) ao wB h5 (fun x hx=>by have:=(hbd x hx).1;omega) (HPB.out.after hbB) (HST.out.after hbB) (Nat.le_trans hB hzB) hgp HSB.out ((HW.out.after hbB).drop 1) HGL.out hlo hhi (by omega) (by omega)).mono ?_;rintro e4 w4 ⟨ho4,hb4,hy4⟩;rw[HV.out] at ho4;obtain⟨rfl,hs4,ao4,c4,hp4,hst4⟩:=ho4;have HP4:=q6q hp4;have HS4:=q6q hs4;have HT4:=q6q hst4;obtain⟨p1,p2,p3,p4⟩:=hp4.blk2.facts;have hpl:=hp4.lt;obtain⟨⟨g0,g1,g2,g3⟩,g4,g5,g6⟩:=hs4.facts;obtain⟨⟨g0,g1,g2,g3⟩,g4,g5,g6⟩:=(hs4.incP hp4.blkT (.int .i64 ((kk:Int)+1))).facts;clear hp4 hs4 hst4)
      |(go_at_call 43;refine(qaf 10 pa0 _).mono ?_;rintro e9 w9 ⟨rfl,rfl⟩))
     have hbZ:Below B w (w4.setCell ⟨gp,1,none⟩ (.int .i64 ((kk:Int)+1))):=Below.setCell ((hbB.mono hB).trans hb4) hgp _;have hsZ:w.heap.size≤w4.heap.size:=Nat.le_trans hzB hb4.size;exact⟨rfl,qah Y.out ⟨_,rfl,hsZ,qae _ _ _ (by simp)⟩,Below.alloc hbZ (by rw[World.size_setCell];exact Nat.le_trans hB hsZ) _,(KeepY.incP ((KeepY.below hbB).trans hy4) HP4.out.blkT _).trans (KeepY.below (Below.alloc (Below.refl _ _) (Nat.le_refl _) _))⟩
    ·have Y:=q6q (show qay st (x0::l) kk= .ok st' by rw[HR.out,hr];simp only;rw[if_neg h24])
     have h24':decide ((24:Int)<(kk:Int)+1)=false:=by rw[decide_eq_false_iff_not];omega
     clear hr HR
     go_wp2_with (go_at_call 123;refine(qf8 st l B gp gs b (o+2) (lw - 1) pa0 c kk 0 (-1) ao wB h5 (fun x hx=>by have:=(hbd x hx).1;omega) (HPB.out.after hbB) (HST.out.after hbB) (Nat.le_trans hB hzB) hgp HSB.out ((HW.out.after hbB).drop 1) HGL.out hlo hhi (by omega) (by omega)).mono ?_;rintro e4 w4 ⟨ho4,hb4,hy4⟩;rw[HV.out] at ho4;obtain⟨rfl,hs4,ao4,c4,hp4,hst4⟩:=ho4;have HP4:=q6q hp4;have HS4:=q6q hs4;have HT4:=q6q hst4;obtain⟨p1,p2,p3,p4⟩:=hp4.blk2.facts;have hpl:=hp4.lt;obtain⟨⟨g0,g1,g2,g3⟩,g4,g5,g6⟩:=hs4.facts;obtain⟨⟨g0,g1,g2,g3⟩,g4,g5,g6⟩:=(hs4.incP hp4.blkT (.int .i64 ((kk:Int)+1))).facts;clear hp4 hs4 hst4)
     first|go_end0|refine bodyPost_ret (results_none rfl _ _ _) rfl ?_
     exact⟨qee Y.out rfl rfl (HP4.out.inc (by omega)) (HT4.out.incP HP4.out.blkT _),Below.setCell ((hbB.mono hB).trans hb4) hgp _,KeepY.incP ((KeepY.below hbB).trans hy4) HP4.out.blkT _⟩
theorem FLastR.keep{init:List StageG}(h:FLastR B H w init y gb c cs0 sv vv scs)(h1:KeepT qas w w')(h2:KeepT qai w w')(h3:KeepT qbl w w')(h4:KeepT qbg w w')(h5:KeepT qa4 w w')(hs:w.heap.size≤w'.heap.size):FLastR B H w' init y gb c cs0 sv vv scs:=
 ⟨qao h.own h1,h.ini.stays h4 h5 (fun g cur _ e=>h2 g cur e) (fun g cur _ e=>h3 g cur e),qao h.steps h2,h.cells.keep h4 h5,qao h.vars h3,Nat.le_trans h.hH hs,h.hB⟩
theorem FLastR.incP{init:List StageG}(h:FLastR B H w init y gb c cs0 sv vv scs)(hb:BlkT w gp qd7)(v:Value):FLastR B H (w.setCell ⟨gp,1,none⟩ v) init y gb c cs0 sv vv scs:=
 h.keep (KeepT.setT hb (by decide) _ _) (KeepT.setT hb (by decide) _ _) (KeepT.setT hb (by decide) _ _) (KeepT.setT hb (by decide) _ _) (KeepT.setT hb (by decide) _ _) (by simp)
theorem FWordsR.incP{ws:List WordG}(h:FWordsR w A ws)(hb:BlkT w gp qd7)(v:Value):FWordsR (w.setCell ⟨gp,1,none⟩ v) A ws:=h.keep (KeepT.setT hb (by decide) _ _) (KeepT.setT hb (by decide) _ _)
theorem qki{kk d:Nat}{w2:World}{init:List StageG}{sv':Value}{x:StepG}(h:FLastR B H w init y gb c cs0 sv vv scs)
 (hp:PB w gp (some ⟨gb,0,none⟩) (init.length+1) c kk)(hx:FWordsR w A x.words)(hg:w.grownBy w2 sv.ownBlock)
 (hown:w2.ownsRow H qai 4 sv' (y.steps.length+1) (scs++[.int .i64 (qde x.op),.slice A x.words.length d,.int .i64 x.stage,.int .i64 x.at_])):
 (FStagesR B (w2.setCell ⟨gb,init.length*4+2,none⟩ sv') (init++[⟨y.name,y.base,y.steps++[x],y.vars⟩]) (some ⟨gb,0,none⟩) c∧FKeepX w (w2.setCell ⟨gb,init.length*4+2,none⟩ sv')∧Below B w (w2.setCell ⟨gb,init.length*4+2,none⟩ sv')
   ∧PB (w2.setCell ⟨gb,init.length*4+2,none⟩ sv') gp (some ⟨gb,0,none⟩) (init.length+1) c kk)∧
 (gb<w2.heap.size∧w2.cell? ⟨gb,init.length*4+2,none⟩=some sv∧w2.cell? ⟨gb,init.length*4+3,none⟩=some vv∧w2.frozen? ⟨gb,init.length*4+2,none⟩=false∧w2.frozen? ⟨gb,init.length*4+3,none⟩=false)∧PB w2 gp (some ⟨gb,0,none⟩) (init.length+1) c kk:=by
 obtain⟨scs',h1,h2,h3⟩:=h.pushStep hx hg hown;have hT:∀T,T≠qai→KeepT T w w2:=fun T hne=>KeepT.grown hg h.steps (fun e=>hne e.symm)
 exact⟨⟨h1.stages,h2,h3,hp.keep (h2 _ (by decide) (by decide) (by decide))⟩,qre (qao h.own (hT _ (by decide))) h.ini.len,hp.keep (hT _ (by decide))⟩
theorem qwk(st:List StageG)(x0:WordG)(l:List WordG)(B gp b o lw c kk:Nat)(ao:Option Addr)(w:World)(h5:st.length≤5)(hbd:StB 50 st)(hk24:kk≤24)(hp:PB w gp ao st.length c kk)(hst:FStagesR B w st ao c)(hB:B≤w.heap.size)(hgp:B≤gp)(hord:Ord w)
 (hw:FWordsR w (some ⟨b,o,none⟩) (x0::l))(hg:GoodW (x0::l))(hl4:l.length+1≤2000)(hlc:l.length+1≤lw)(hlm:lw≤maxLen)(hne:st≠[])(lo hi2:Nat)(kd:Int)(hf:qfn x0.text lo hi2 .nilFunc kd)(hk1:kd≠0)(hk6:kd≠6)(hlk:qci st x0.text (x0::l)= .ok (-1,l))(hnF:x0.text≠qcq)(hnE:x0.text≠wENV)(hlo:lo≤l.length)(hhi:l.length≤hi2)(hl1:1≤lo)(hi3:hi2≤3):
 Calls Tryz.prog 45 #[.pointer (some ⟨gp,0,none⟩),.slice (some ⟨b,o,none⟩) (l.length+1) lw] w fun e w'=>qdz B gp kk w w' e (qay st (x0::l) kk)∧Below B w w'∧KeepY w w':=by
 obtain⟨hf1,hf2,hf3,hfv,_⟩:=hf;obtain⟨H,init,y,gb,cs0,sv,vv,scs,rfl,rfl,hL⟩:=hst.last hne;obtain⟨sa,sc,rfl⟩:=qad hL.steps;obtain⟨va,vc,rfl⟩:=qad hL.vars;rw[List.length_append,List.length_singleton] at hp h5;have hi:init.length≤4:=by omega
 have hy:=hbd y (by simp);have hyv:=hy.1;have hys:=hy.2;have HL:=q6q hL;have hs0:((init.length:Int)+1==0)=false:=by rw[beq_eq_false_iff_ne];omega
 have hk0:kk+1≤9223372036854775807:=by omega
 clear hL hy;have HPB:=q6q hp;have HST:=q6q hst;have HW:=q6q hw;have HGL:=q6q (show GoodW l from fun x hx=>hg x (List.mem_cons_of_mem _ hx));have HO:=q6q hord;obtain⟨fa,fc,hb,m1,m2,ho⟩:=hw.one (k:=0) (by simp);rw[Nat.zero_mul,Nat.add_zero] at m1 m2;rw[show nth (x0::l) 0=x0 from rfl] at m1 m2 ho;have hgx:GoodA x0.l∧x0.l.length≤2000:=hg x0 (by simp);have HPl:=q6q (show ∀wx:World,Below w.heap.size w wx→Calls Tryz.prog 80 #[.agg #[.slice fa x0.pl.length fc,.int .i64 x0.at_]] wx fun e w'=>e= .returned (.tuple #[.string (S x0.text),.bool x0.flat])∧Below wx.heap.size wx w' from
  fun wx hb=>qbu x0 fa fc 0 _ wx hgx.1 hgx.2 rfl (qac ho hb))
 have hl0:(0:Int)<(l.length:Int)+1:=by omega
 have hl1':(1:Int)≤(l.length:Int)+1:=by omega
 have hlc':(l.length:Int)+1≤(lw:Int):=by omega
 have hlw:¬lw=1:=by omega
 have hr0:=qgn (st:=init++[y]) (ws:=x0::l) (n:=kk) hf3 (by rintro(h|h|h);exact absurd h.1 (by simp);simp at h;omega;simp at h;omega) hnF;have HR:=q6q (show qay (init++[y]) (x0::l) kk=(match qbn y.vars l with|some p=> .error (7,p)|none=>if 24<kk+1 then .error (10,x0.at_) else .ok (init++[⟨y.name,y.base,y.steps++[⟨x0.text,l,-1,x0.at_⟩],y.vars⟩])) by
  rw[hr0];unfold qfy;rw[show(nth (x0::l) 0).text=x0.text from rfl,hlk];simp only;rw[qey];cases qbn y.vars l with
  |some p=>rfl
  |none=>
   simp only;rw[if_neg hnE,qeb,List.append_nil];rfl)
 have HFR:=q6q hf1;have HKD:=q6q hf2;have hkd1:(kd != 0)=true:=by rw[bne_iff_ne];exact hk1
 have hkd6:(kd != 6)=true:=by rw[bne_iff_ne];exact hk6
 clear hf1 hf2 hf3 hr0 hlk hnF hnE hk1 hk6;clear hp hst hw hg hord ho hgx;generalize x0.text=t0 at*;generalize x0.pl.length=q0 at*;generalize x0.at_=pa0 at*;generalize x0.flat=fl0 at*;have hlo2:decide (l.length<lo)=false:=by rw[decide_eq_false_iff_not];omega
 have hhi3:decide (hi2<l.length)=false:=by rw[decide_eq_false_iff_not];omega
 have hlo3:¬l.length<lo:=by omega
 have hhi4:¬hi2<l.length:=by omega
 have hnf:∀w:World,(binOp .neq 176 .nilFunc .nilFunc).run Tryz.prog w= .ok (.bool false) w:=fun _=>by kernel_rfl
 have hgb:B≤gp:=hgp;go_enter Tryz.func45,Tryz.ntmps45;go_wp2_with (first
  |(go_at_call 80;refine(HPl.out _ (Below.refl _ _)).mono ?_;rintro e1 w1 ⟨rfl,hb1⟩;have hO1:=q6q (HO.out.after hb1))
  |(go_at_call 81;refine(qau t0 _ hO1.out).mono ?_;rintro e2 w2 ⟨rfl,hb2⟩;rw[HFR.out];have hb12:=hb1.trans (hb2.mono hb1.size)))
 have hbA:Below w.heap.size w (w2.alloc (.cells #[.string (S t0),.int .i64 lo,.int .i64 hi2,.nilFunc] qa1)):=hb12.alloc hb12.size _;have HFB:=q6q (Blk4.new w2 (.string (S t0)) (.int .i64 lo) (.int .i64 hi2) (.nilFunc) qa1);have hgf:w.heap.size≤w2.heap.size:=hb12.size;generalize hWA:w2.alloc (.cells #[.string (S t0),.int .i64 lo,.int .i64 hi2,.nilFunc] qa1)=wA at*;generalize w2.heap.size=gf at*;clear hWA hb12 hb1 hb2 hO1;have k2A:=Below.cellAt hbA hb m2;have hOA:=q6q (HO.out.after hbA);have hzA:=hbA.size;obtain⟨p1,p2,p3,p4⟩:=(HPB.out.after (qab hbA)).blk2.facts;have hpl:=(HPB.out.after hbA).lt;obtain⟨f0,f1,f2,f3,_,_,_,_⟩:=HFB.out.facts
 have hfl:=HFB.out.lt;have hpA:wA.cell? ⟨gp,0,none⟩=some (.slice (some ⟨gb,0,none⟩) (init.length+1) c):=(HPB.out.after hbA).blk2.facts.1;go_region_held3 (fun w'=>w'.cell? ⟨b,o+1,none⟩=some (.int .i64 pa0)) (go_keep) (first|(go_at_call 82;refine(qam t0 _ (by first|exact hOA.out.after (qab (Below.refl _ _))|exact hOA.out.after (qab (Below.alloc (Below.refl _ _) (Nat.le_refl _) _)))).mono ?_;rintro e3 w3 ⟨rfl,rfl⟩;rw[HKD.out]))
 all_goals
  have hbB:Below w.heap.size w (wA.alloc (.cells #[.int .i64 kd,.slice (some ⟨b,o+2,none⟩) l.length (lw - 1),.int .i64 (-1),.int .i64 pa0] qai)).drew:=qab (hbA.alloc hzA _);have HSB:=q6q (show SBlk (wA.alloc (.cells #[.int .i64 kd,.slice (some ⟨b,o+2,none⟩) l.length (lw - 1),.int .i64 (-1),.int .i64 pa0] qai)).drew wA.heap.size kd (some ⟨b,o+2,none⟩) l.length (lw - 1) (-1) pa0 from⟨heap_alloc_new wA _⟩);have HFX:=q6q (Blk4.drew (HFB.out.alloc' (.cells #[.int .i64 kd,.slice (some ⟨b,o+2,none⟩) l.length (lw - 1),.int .i64 (-1),.int .i64 pa0] qai)));have hgs:w.heap.size≤wA.heap.size:=hzA;clear f0 f1 f2 f3 hfl p1 p2 p3 p4 hpl hpA k2A
  generalize hWB:(wA.alloc (.cells #[.int .i64 kd,.slice (some ⟨b,o+2,none⟩) l.length (lw - 1),.int .i64 (-1),.int .i64 pa0] qai)).drew=wB at*;generalize wA.heap.size=gs at*;clear hWB;have hzB:=hbB.size;obtain⟨p1,p2,p3,p4⟩:=(HPB.out.after hbB).blk2.facts;have hpl:=(HPB.out.after hbB).lt;obtain⟨f0,f1,f2,f3,_,_,_,_⟩:=HFX.out.facts;have hfl:=HFX.out.lt;obtain⟨⟨g0,g1,g2,g3⟩,g4,g5,g6⟩:=HSB.out.facts;cases hu:qbn y.vars l with
  |some q=>
   have Y:=q6q (show qay (init++[y]) (x0::l) kk= .error (7,q) by rw[HR.out,hu]);have HV:=q6q hu;clear hu HR;go_wp2_with (go_at_call 83;refine(qct gp gb init.length c kk y.vars va (some ⟨b,o+2,none⟩) vc l.length (lw - 1) l wB hi ((HL.out.after hbB).varsAt (HPB.out.after hbB)) (by omega) ((HW.out.after hbB).drop 1) HGL.out rfl (by omega)).mono ?_;rintro e4 w4 ⟨ho4,hb4⟩;rw[HV.out] at ho4;obtain⟨n6,rfl,h6,h7⟩:=ho4)
   exact⟨rfl,qah Y.out ⟨n6,rfl,Nat.le_trans hzB h6,h7⟩,(hbB.trans (hb4.mono hzB)).mono hB,KeepY.below (hbB.trans (hb4.mono hzB))⟩
  |none=>
   have HV:=q6q hu;by_cases h24:24<kk+1
   ·have Y:=q6q (show qay (init++[y]) (x0::l) kk= .error (10,pa0) by rw[HR.out,hu];simp only;rw[if_pos h24])
    have h24':(24:Int)<(kk:Int)+1:=by omega
    clear hu HR;go_wp2_with (first
     |(go_at_call 83;refine(qct gp gb init.length c kk y.vars va (some ⟨b,o+2,none⟩) vc l.length (lw - 1) l wB hi ((HL.out.after hbB).varsAt (HPB.out.after hbB)) (by omega) ((HW.out.after hbB).drop 1) HGL.out rfl (by omega)).mono ?_;rintro e4 w4 ⟨ho4,hb4⟩;rw[HV.out] at ho4;obtain rfl:=ho4;have hbK:Below w.heap.size w w4:=hbB.trans (hb4.mono hzB);have HPK:=q6q (HPB.out.after hbK);have LRK:=q6q (HL.out.after hbK);have HSK:=q6q (HSB.out.after hb4);have HWK:=q6q ((HW.out.after hbK).drop 1);obtain⟨p1,p2,p3,p4⟩:=HPK.out.blk2.facts;have hpl:=HPK.out.lt;obtain⟨⟨g0,g1,g2,g3⟩,g4,g5,g6⟩:=HSK.out.facts;obtain⟨⟨g0,g1,g2,g3⟩,g4,g5,g6⟩:=(HSK.out.incP HPK.out.blkT (.int .i64 ((kk:Int)+1))).facts)
     |(go_at_call 43;refine(qaf 10 pa0 _).mono ?_;rintro e9 w9 ⟨rfl,rfl⟩))
    have hbZ:Below B w (w4.setCell ⟨gp,1,none⟩ (.int .i64 ((kk:Int)+1))):=Below.setCell (hbK.mono hB) hgp _;exact⟨rfl,qah Y.out ⟨_,rfl,hbK.size,qae _ _ _ (by simp)⟩,Below.alloc hbZ (by rw[World.size_setCell];exact Nat.le_trans hB hbK.size) _,(KeepY.incP (KeepY.below hbK) HPK.out.blkT _).trans (KeepY.below (Below.alloc (Below.refl _ _) (Nat.le_refl _) _))⟩
   ·have Y:=q6q (show qay (init++[y]) (x0::l) kk= .ok (init++[⟨y.name,y.base,y.steps++[⟨t0,l,-1,pa0⟩],y.vars⟩]) by rw[HR.out,hu];simp only;rw[if_neg h24])
    have h24':decide ((24:Int)<(kk:Int)+1)=false:=by rw[decide_eq_false_iff_not];omega
    clear hu HR
    go_wp2_with (go_at_call 83;refine(qct gp gb init.length c kk y.vars va (some ⟨b,o+2,none⟩) vc l.length (lw - 1) l wB hi ((HL.out.after hbB).varsAt (HPB.out.after hbB)) (by omega) ((HW.out.after hbB).drop 1) HGL.out rfl (by omega)).mono ?_;rintro e4 w4 ⟨ho4,hb4⟩;rw[HV.out] at ho4;obtain rfl:=ho4;have hbK:Below w.heap.size w w4:=hbB.trans (hb4.mono hzB);have HPK:=q6q (HPB.out.after hbK);have LRK:=q6q (HL.out.after hbK);have HSK:=q6q (HSB.out.after hb4);have HWK:=q6q ((HW.out.after hbK).drop 1);obtain⟨p1,p2,p3,p4⟩:=HPK.out.blk2.facts;have hpl:=HPK.out.lt;obtain⟨⟨g0,g1,g2,g3⟩,g4,g5,g6⟩:=HSK.out.facts;obtain⟨⟨g0,g1,g2,g3⟩,g4,g5,g6⟩:=(HSK.out.incP HPK.out.blkT (.int .i64 ((kk:Int)+1))).facts)
    have HPZ:=q6q (HPK.out.inc (v:=(kk:Int)+1) (by omega));have LRZ:=q6q (LRK.out.incP HPK.out.blkT (.int .i64 ((kk:Int)+1)));have HSZ:=q6q (HSK.out.incP HPK.out.blkT (.int .i64 ((kk:Int)+1)));have HWZ:=q6q (HWK.out.incP HPK.out.blkT (.int .i64 ((kk:Int)+1)));have hbZ:Below B w (w4.setCell ⟨gp,1,none⟩ (.int .i64 ((kk:Int)+1))):=Below.setCell (hbK.mono hB) hgp _;have HYZ:=q6q (KeepY.incP (KeepY.below hbK) HPK.out.blkT (.int .i64 ((kk:Int)+1)));clear p1 p2 p3 p4 hpl g0 g1 g2 g3 g4 g5 g6;generalize hWZ:w4.setCell ⟨gp,1,none⟩ (.int .i64 ((kk:Int)+1))=wZ at*;clear hWZ;have hzZ:=hbZ.size;obtain⟨p1,p2,p3,p4⟩:=HPZ.out.blk2.facts
    have hpl:=HPZ.out.lt;obtain⟨⟨g0,g1,g2,g3⟩,g4,g5,g6⟩:=HSZ.out.facts;obtain⟨z1,z2,z3,z4,z5⟩:=LRZ.out.facts;have hHZ:=LRZ.out.hH;have hzAl:∀n:Nat,((wZ.drewN n).alloc (.cells #[.int .i64 kd,.slice (some ⟨b,o+2,none⟩) l.length (lw - 1),.int .i64 (-1),.int .i64 pa0] qai)).cell? ⟨gb,init.length*4+2,none⟩=some (.slice sa y.steps.length sc):=fun n=>(World.cell?_alloc_lt _ _ _ z1).trans z2
    obtain⟨i2,hi2,hz6,hz7,hz8⟩:=info_parts (show(Tryz.prog.info? 123).map (fun i=>(i.zero,i.size,i.bytes))=some (some (.agg #[.int .i64 0,.slice none 0 0,.int .i64 0,.int .i64 0]),4,48) by kernel_rfl);have HPZA:=q6q (HPZ.out.after (Below.alloc (Below.refl _ _) (Nat.le_refl _) (.cells #[.int .i64 kd,.slice (some ⟨b,o+2,none⟩) l.length (lw - 1),.int .i64 (-1),.int .i64 pa0] qai)));have LRA:=q6q (LRZ.out.alloc (.cells #[.int .i64 kd,.slice (some ⟨b,o+2,none⟩) l.length (lw - 1),.int .i64 (-1),.int .i64 pa0] qai))
    have HWA:=q6q (HWZ.out.after (Below.alloc (Below.refl _ _) (Nat.le_refl _) (.cells #[.int .i64 kd,.slice (some ⟨b,o+2,none⟩) l.length (lw - 1),.int .i64 (-1),.int .i64 pa0] qai)));go_region_law (first
     |(refine step_append_lies _ (by rfl) (.tmp 104) (.tmp 106) 116 (by rfl) H qai i2 (.agg #[.int .i64 0,.slice none 0 0,.int .i64 0,.int .i64 0]) 4 48 Tryz.underlying116 hi2 hz6 hz7 hz8 (by rfl) (by decide) (.slice sa y.steps.length sc) y.steps.length scs (by rfl) (by exact LRA.out.steps) ⟨_,0,none⟩ 1 1 [.int .i64 kd,.slice (some ⟨b,o+2,none⟩) l.length (lw - 1),.int .i64 (-1),.int .i64 pa0] (by rfl) (by rfl) (by exact qdn wZ _ _ _ _ _ _ rfl) (by simp[Value.oneCell']) (by decide) (by unfold maxLen;omega) (by omega) (by simp;omega) _ (by rfl) ?_;intro g' c' w7 hown7 hgr7 _ _;have hgr8:(wZ.alloc (.cells #[.int .i64 kd,.slice (some ⟨b,o+2,none⟩) l.length (lw - 1),.int .i64 (-1),.int .i64 pa0] qai)).grownBy w7 (Value.slice sa y.steps.length sc).ownBlock:=⟨hgr7.os,hgr7.tape,hgr7.output,hgr7.size,hgr7.block⟩;obtain⟨PS,⟨y1,y2,y3,y4,y5⟩,PP⟩:=qki (x:=⟨t0,l,(-1),pa0⟩) LRA.out HPZA.out HWA.out hgr8 (by rw[show qde (StepG.op ⟨t0,l,(-1),pa0⟩)=kd from HKD.out];exact hown7);have PS:=q6q PS;have HP7:=q6q PP;clear hown7 hgr7 hgr8 PP)
     |(go_simp;go_at_call 84;refine(qfd gp gb init.length c (kk+1) _ hi (by first|exact HPZ.out|exact HPZA.out|exact HP7.out)).mono ?_;rintro e5 w5 ⟨rfl,q5,rfl⟩))
    all_goals
     go_wp2
     first|go_end0|refine bodyPost_ret (results_none rfl _ _ _) rfl ?_
     obtain⟨P1,P2,P3,P4⟩:=PS.out;have hbW:Below B w (wZ.alloc (.cells #[.int .i64 kd,.slice (some ⟨b,o+2,none⟩) l.length (lw - 1),.int .i64 (-1),.int .i64 pa0] qai)):=Below.alloc hbZ (Nat.le_trans hB hzZ) _;exact⟨qee Y.out rfl (by rw[List.length_append];rfl) P4 P1,hbW.trans P3,(KeepY.trans HYZ.out (KeepY.below (Below.alloc (Below.refl _ _) (Nat.le_refl _) _))).trans (KeepY.of _ _ P2)⟩
theorem qrk(vars:List (List UInt8))(l:List Atm)(acc:List UInt8)(h:(qbe l acc).2=true):qb8 vars l=none:=by
 induction l generalizing acc with
 |nil=>rfl
 |cons x r ih=>
  cases x with
  |ch c=>rw[qbe] at h;exact ih _ h
  |var n p=>simp[qbe] at h
theorem qrj(vars:List (List UInt8))(l:List WordG)(h:1≤l.length)(hf:(nth l 0).flat=true):qbn vars l=qbn vars (l.drop 1):=by
 cases l with
 |nil=>simp at h
 |cons a r=>
  have:qb8 vars a.l=none:=qrk vars a.l [] hf;simp only[qbn,this,List.drop_succ_cons,List.drop_zero]
theorem qwl(st:List StageG)(x0:WordG)(l:List WordG)(B gp b o lw c kk:Nat)(ao:Option Addr)(w:World)(h5:st.length≤5)(hbd:StB 50 st)(hk24:kk≤24)(hp:PB w gp ao st.length c kk)(hst:FStagesR B w st ao c)(hB:B≤w.heap.size)(hgp:B≤gp)(hord:Ord w)
 (hw:FWordsR w (some ⟨b,o,none⟩) (x0::l))(hg:GoodW (x0::l))(hl4:l.length+1≤2000)(hlc:l.length+1≤lw)(hlm:lw≤maxLen)(hne:st≠[])(ht:x0.text=wENV)(hlo:2≤l.length)(hhi:l.length≤2):
 Calls Tryz.prog 45 #[.pointer (some ⟨gp,0,none⟩),.slice (some ⟨b,o,none⟩) (l.length+1) lw] w fun e w'=>qdz B gp kk w w' e (qay st (x0::l) kk)∧Below B w w'∧KeepY w w':=by
 obtain⟨hf1,hf2,hf3,hfv,_⟩:=qt5;rw[←ht] at hf1 hf2 hf3;obtain⟨H,init,y,gb,cs0,sv,vv,scs,rfl,rfl,hL⟩:=hst.last hne;obtain⟨sa,sc,rfl⟩:=qad hL.steps;obtain⟨va,vc,rfl⟩:=qad hL.vars;rw[List.length_append,List.length_singleton] at hp h5;have hi:init.length≤4:=by omega
 have hy:=hbd y (by simp);have hyv:=hy.1;have hys:=hy.2;have HL:=q6q hL;have hs0:((init.length:Int)+1==0)=false:=by rw[beq_eq_false_iff_ne];omega
 have hk0:kk+1≤9223372036854775807:=by omega
 clear hL hy;have HPB:=q6q hp;have HST:=q6q hst;have HW:=q6q hw;have HGL:=q6q (show GoodW l from fun x hx=>hg x (List.mem_cons_of_mem _ hx));have HO:=q6q hord;obtain⟨fa,fc,hb,m1,m2,ho⟩:=hw.one (k:=0) (by simp);rw[Nat.zero_mul,Nat.add_zero] at m1 m2;rw[show nth (x0::l) 0=x0 from rfl] at m1 m2 ho;have hgx:GoodA x0.l∧x0.l.length≤2000:=hg x0 (by simp);have HPl:=q6q (show ∀wx:World,Below w.heap.size w wx→Calls Tryz.prog 80 #[.agg #[.slice fa x0.pl.length fc,.int .i64 x0.at_]] wx fun e w'=>e= .returned (.tuple #[.string (S x0.text),.bool x0.flat])∧Below wx.heap.size wx w' from
  fun wx hb=>qbu x0 fa fc 0 _ wx hgx.1 hgx.2 rfl (qac ho hb))
 have hl0:(0:Int)<(l.length:Int)+1:=by omega
 have hl1':(1:Int)≤(l.length:Int)+1:=by omega
 have hlc':(l.length:Int)+1≤(lw:Int):=by omega
 have hlw:¬lw=1:=by omega
 have hr0:=qgn (st:=init++[y]) (ws:=x0::l) (n:=kk) hf3 (by rintro(h|h|h);exact absurd h.1 (by simp);simp at h;omega;simp at h;omega) (by rw[show(nth (x0::l) 0).text=x0.text from rfl,ht];decide);have HR:=q6q (show qay (init++[y]) (x0::l) kk=(match envR y.vars l with|.error f=> .error f|.ok x=>if 24<kk+1 then .error (10,x0.at_) else .ok (init++[⟨y.name,y.base,y.steps++[⟨x0.text,l,-1,x0.at_⟩],y.vars++[x]⟩])) by
  rw[hr0];unfold qfy;rw[show(nth (x0::l) 0).text=x0.text from rfl,ht];have h1:nth (x0::l) 1=nth l 0:=rfl;have hl:qci (init++[y]) wENV (x0::l)=if (nth l 0).flat=false∨qhl (nth l 0).text=false then .error (5,(nth l 0).at_) else .ok (-1,l):=by
   unfold qci;rw[if_neg (by decide),if_neg (by decide),if_pos rfl,h1];rfl
  rw[hl];unfold envR;by_cases hc:(nth l 0).flat=false∨qhl (nth l 0).text=false
  ·rw[if_pos hc,if_pos hc]
  ·rw[if_neg hc,if_neg hc]
   have hfl:(nth l 0).flat=true:=by
    cases h:(nth l 0).flat with
    |false=>exact absurd (.inl h) hc
    |true=>rfl
   simp only;rw[qey,qrj y.vars l (by omega) hfl];cases qbn y.vars (l.drop 1) with
   |some p=>rfl
   |none=>
    simp only;rw[if_pos trivial,qeb,h1];rfl)
 have HFR:=q6q hf1;have HKD:=q6q hf2;clear hf1 hf2 hf3 hr0 ht;clear hp hst hw hg hord ho hgx;generalize x0.text=t0 at*;generalize x0.pl.length=q0 at*;generalize x0.at_=pa0 at*;generalize x0.flat=fl0 at*;have hlo2:decide (l.length<2)=false:=by rw[decide_eq_false_iff_not];omega
 have hhi3:decide (2<l.length)=false:=by rw[decide_eq_false_iff_not];omega
 have hlo3:¬l.length<2:=by omega
 have hhi4:¬2<l.length:=by omega
 have hnf:∀w:World,(binOp .neq 176 (.func (Fn.func 126) #[] #[]) .nilFunc).run Tryz.prog w= .ok (.bool true) w:=fun _=>by kernel_rfl
 go_enter Tryz.func45,Tryz.ntmps45;go_wp2_with (first
  |(go_at_call 80;refine(HPl.out _ (Below.refl _ _)).mono ?_;rintro e1 w1 ⟨rfl,hb1⟩;have hO1:=q6q (HO.out.after hb1))
  |(go_at_call 81;refine(qau t0 _ hO1.out).mono ?_;rintro e2 w2 ⟨rfl,hb2⟩;rw[HFR.out];have hb12:=hb1.trans (hb2.mono hb1.size)))
 have hbA:Below w.heap.size w (w2.alloc (.cells #[.string (S t0),.int .i64 2,.int .i64 2,.func (Fn.func 126) #[] #[]] qa1)):=hb12.alloc hb12.size _;have HFB:=q6q (Blk4.new w2 (.string (S t0)) (.int .i64 2) (.int .i64 2) (.func (Fn.func 126) #[] #[]) qa1);have hgf:w.heap.size≤w2.heap.size:=hb12.size;generalize hWA:w2.alloc (.cells #[.string (S t0),.int .i64 2,.int .i64 2,.func (Fn.func 126) #[] #[]] qa1)=wA at*;generalize w2.heap.size=gf at*;clear hWA hb12 hb1 hb2 hO1;have k2A:=Below.cellAt hbA hb m2;have hOA:=q6q (HO.out.after hbA);have hzA:=hbA.size;obtain⟨p1,p2,p3,p4⟩:=(HPB.out.after (qab hbA)).blk2.facts;have hpl:=(HPB.out.after hbA).lt
 obtain⟨f0,f1,f2,f3,_,_,_,_⟩:=HFB.out.facts;have hfl:=HFB.out.lt;have hpA:wA.cell? ⟨gp,0,none⟩=some (.slice (some ⟨gb,0,none⟩) (init.length+1) c):=(HPB.out.after hbA).blk2.facts.1;go_region_held3 (fun w'=>w'.cell? ⟨b,o+1,none⟩=some (.int .i64 pa0)) (go_keep) (first|(go_at_call 82;refine(qam t0 _ (by first|exact hOA.out.after (qab (Below.refl _ _))|exact hOA.out.after (qab (Below.alloc (Below.refl _ _) (Nat.le_refl _) _)))).mono ?_;rintro e3 w3 ⟨rfl,rfl⟩;rw[HKD.out]))
 all_goals
  have hbB:Below w.heap.size w (wA.alloc (.cells #[.int .i64 6,.slice (some ⟨b,o+2,none⟩) l.length (lw - 1),.int .i64 (-1),.int .i64 pa0] qai)).drew:=qab (hbA.alloc hzA _);have HSB:=q6q (show SBlk (wA.alloc (.cells #[.int .i64 6,.slice (some ⟨b,o+2,none⟩) l.length (lw - 1),.int .i64 (-1),.int .i64 pa0] qai)).drew wA.heap.size 6 (some ⟨b,o+2,none⟩) l.length (lw - 1) (-1) pa0 from⟨heap_alloc_new wA _⟩);have HFX:=q6q (Blk4.drew (HFB.out.alloc' (.cells #[.int .i64 6,.slice (some ⟨b,o+2,none⟩) l.length (lw - 1),.int .i64 (-1),.int .i64 pa0] qai)));have hgs:w.heap.size≤wA.heap.size:=hzA;clear f0 f1 f2 f3 hfl p1 p2 p3 p4 hpl hpA k2A
  generalize hWB:(wA.alloc (.cells #[.int .i64 6,.slice (some ⟨b,o+2,none⟩) l.length (lw - 1),.int .i64 (-1),.int .i64 pa0] qai)).drew=wB at*;generalize wA.heap.size=gs at*;clear hWB;have hzB:=hbB.size;obtain⟨p1,p2,p3,p4⟩:=(HPB.out.after hbB).blk2.facts;have hpl:=(HPB.out.after hbB).lt;obtain⟨f0,f1,f2,f3,_,_,_,_⟩:=HFX.out.facts;have hfl:=HFX.out.lt;obtain⟨⟨g0,g1,g2,g3⟩,g4,g5,g6⟩:=HSB.out.facts;cases hr:envR y.vars l with
  |error fp=>
   obtain⟨f4,p4'⟩:=fp;have Y:=q6q (show qay (init++[y]) (x0::l) kk= .error (f4,p4') by rw[HR.out,hr]);have HV:=q6q hr;clear hr HR;go_wp2_with (go_at_call 126;refine(qor init y B H gb c gp gs kk b (o+2) (lw - 1) pa0 vc _ 6 (-1) va l cs0 _ scs wB (HL.out.after hbB) rfl hi (by omega) (HPB.out.after hbB) HSB.out ((HW.out.after hbB).drop 1) HGL.out (by omega) (by omega) (by omega) (by omega)).mono ?_;rintro e4 w4 ⟨ho4,hb4,hy4⟩;rw[HV.out] at ho4;obtain⟨n6,rfl,h6,h7⟩:=ho4)
   exact⟨rfl,qah Y.out ⟨n6,rfl,Nat.le_trans hzB h6,h7⟩,((hbB.mono hB).trans hb4),((KeepY.below hbB).trans (KeepY.of _ _ hy4))⟩
  |ok xv=>
   have HV:=q6q hr;by_cases h24:24<kk+1
   ·have Y:=q6q (show qay (init++[y]) (x0::l) kk= .error (10,pa0) by rw[HR.out,hr];simp only;rw[if_pos h24])
    have h24':(24:Int)<(kk:Int)+1:=by omega
    clear hr HR;go_wp2_with (first
     |(go_at_call 126;refine(qor init y B H gb c gp gs kk b (o+2) (lw - 1) pa0 vc _ 6 (-1) va l cs0 _ scs wB (HL.out.after hbB) rfl hi (by omega) (HPB.out.after hbB) HSB.out ((HW.out.after hbB).drop 1) HGL.out (by omega) (by omega) (by omega) (by omega)).mono ?_;rintro e4 w4 ⟨ho4,hb4,hy4⟩;rw[HV.out] at ho4;obtain⟨rfl,vv4,hl4k,hp4,hs4,hw4⟩:=ho4;have HPK:=q6q hp4;have LRK:=q6q hl4k;have HSK:=q6q hs4;have HWK:=q6q hw4;obtain⟨p1,p2,p3,p4⟩:=HPK.out.blk2.facts;have hpl:=HPK.out.lt;obtain⟨⟨g0,g1,g2,g3⟩,g4,g5,g6⟩:=HSK.out.facts;obtain⟨⟨g0,g1,g2,g3⟩,g4,g5,g6⟩:=(HSK.out.incP HPK.out.blkT (.int .i64 ((kk:Int)+1))).facts;clear hl4k hp4 hs4 hw4)
     |(go_at_call 43;refine(qaf 10 pa0 _).mono ?_;rintro e9 w9 ⟨rfl,rfl⟩))
    have hbZ:Below B w (w4.setCell ⟨gp,1,none⟩ (.int .i64 ((kk:Int)+1))):=Below.setCell ((hbB.mono hB).trans hb4) hgp _;have hsZ:w.heap.size≤w4.heap.size:=Nat.le_trans hzB hb4.size;exact⟨rfl,qah Y.out ⟨_,rfl,hsZ,qae _ _ _ (by simp)⟩,Below.alloc hbZ (by rw[World.size_setCell];exact Nat.le_trans hB hsZ) _,(KeepY.incP ((KeepY.below hbB).trans (KeepY.of _ _ hy4)) HPK.out.blkT _).trans (KeepY.below (Below.alloc (Below.refl _ _) (Nat.le_refl _) _))⟩
   ·have Y:=q6q (show qay (init++[y]) (x0::l) kk= .ok (init++[⟨y.name,y.base,y.steps++[⟨t0,l,-1,pa0⟩],y.vars++[xv]⟩]) by rw[HR.out,hr];simp only;rw[if_neg h24])
    have h24':decide ((24:Int)<(kk:Int)+1)=false:=by rw[decide_eq_false_iff_not];omega
    clear hr HR
    go_wp2_with (go_at_call 126;refine(qor init y B H gb c gp gs kk b (o+2) (lw - 1) pa0 vc _ 6 (-1) va l cs0 _ scs wB (HL.out.after hbB) rfl hi (by omega) (HPB.out.after hbB) HSB.out ((HW.out.after hbB).drop 1) HGL.out (by omega) (by omega) (by omega) (by omega)).mono ?_;rintro e4 w4 ⟨ho4,hb4,hy4⟩;rw[HV.out] at ho4;obtain⟨rfl,vv4,hl4k,hp4,hs4,hw4⟩:=ho4;have HPK:=q6q hp4;have LRK:=q6q hl4k;have HSK:=q6q hs4;have HWK:=q6q hw4;obtain⟨p1,p2,p3,p4⟩:=HPK.out.blk2.facts;have hpl:=HPK.out.lt;obtain⟨⟨g0,g1,g2,g3⟩,g4,g5,g6⟩:=HSK.out.facts;obtain⟨⟨g0,g1,g2,g3⟩,g4,g5,g6⟩:=(HSK.out.incP HPK.out.blkT (.int .i64 ((kk:Int)+1))).facts;clear hl4k hp4 hs4 hw4)
    have HPZ:=q6q (HPK.out.inc (v:=(kk:Int)+1) (by omega));have LRZ:=q6q (LRK.out.incP HPK.out.blkT (.int .i64 ((kk:Int)+1)));have HSZ:=q6q (HSK.out.incP HPK.out.blkT (.int .i64 ((kk:Int)+1)));have HWZ:=q6q (HWK.out.incP HPK.out.blkT (.int .i64 ((kk:Int)+1)));have hbZ:Below B w (w4.setCell ⟨gp,1,none⟩ (.int .i64 ((kk:Int)+1))):=Below.setCell ((hbB.mono hB).trans hb4) hgp _;have HYZ:=q6q (KeepY.incP ((KeepY.below hbB).trans (KeepY.of _ _ hy4)) HPK.out.blkT (.int .i64 ((kk:Int)+1)));clear p1 p2 p3 p4 hpl g0 g1 g2 g3 g4 g5 g6;generalize hWZ:w4.setCell ⟨gp,1,none⟩ (.int .i64 ((kk:Int)+1))=wZ at*;clear hWZ;have hzZ:=hbZ.size
    obtain⟨p1,p2,p3,p4⟩:=HPZ.out.blk2.facts;have hpl:=HPZ.out.lt;obtain⟨⟨g0,g1,g2,g3⟩,g4,g5,g6⟩:=HSZ.out.facts;obtain⟨z1,z2,z3,z4,z5⟩:=LRZ.out.facts;have hHZ:=LRZ.out.hH;have hzAl:∀n:Nat,((wZ.drewN n).alloc (.cells #[.int .i64 6,.slice (some ⟨b,o+2,none⟩) l.length (lw - 1),.int .i64 (-1),.int .i64 pa0] qai)).cell? ⟨gb,init.length*4+2,none⟩=some (.slice sa y.steps.length sc):=fun n=>(World.cell?_alloc_lt _ _ _ z1).trans z2
    obtain⟨i2,hi2,hz6,hz7,hz8⟩:=info_parts (show(Tryz.prog.info? 123).map (fun i=>(i.zero,i.size,i.bytes))=some (some (.agg #[.int .i64 0,.slice none 0 0,.int .i64 0,.int .i64 0]),4,48) by kernel_rfl);have HPZA:=q6q (HPZ.out.after (Below.alloc (Below.refl _ _) (Nat.le_refl _) (.cells #[.int .i64 6,.slice (some ⟨b,o+2,none⟩) l.length (lw - 1),.int .i64 (-1),.int .i64 pa0] qai)));have LRA:=q6q (LRZ.out.alloc (.cells #[.int .i64 6,.slice (some ⟨b,o+2,none⟩) l.length (lw - 1),.int .i64 (-1),.int .i64 pa0] qai))
    have HWA:=q6q (HWZ.out.after (Below.alloc (Below.refl _ _) (Nat.le_refl _) (.cells #[.int .i64 6,.slice (some ⟨b,o+2,none⟩) l.length (lw - 1),.int .i64 (-1),.int .i64 pa0] qai)));go_region_law (first
     |(refine step_append_lies _ (by rfl) (.tmp 104) (.tmp 106) 116 (by rfl) H qai i2 (.agg #[.int .i64 0,.slice none 0 0,.int .i64 0,.int .i64 0]) 4 48 Tryz.underlying116 hi2 hz6 hz7 hz8 (by rfl) (by decide) (.slice sa y.steps.length sc) y.steps.length scs (by rfl) (by exact LRA.out.steps) ⟨_,0,none⟩ 1 1 [.int .i64 6,.slice (some ⟨b,o+2,none⟩) l.length (lw - 1),.int .i64 (-1),.int .i64 pa0] (by rfl) (by rfl) (by exact qdn wZ _ _ _ _ _ _ rfl) (by simp[Value.oneCell']) (by decide) (by unfold maxLen;omega) (by omega) (by simp;omega) _ (by rfl) ?_;intro g' c' w7 hown7 hgr7 _ _;have hgr8:(wZ.alloc (.cells #[.int .i64 6,.slice (some ⟨b,o+2,none⟩) l.length (lw - 1),.int .i64 (-1),.int .i64 pa0] qai)).grownBy w7 (Value.slice sa y.steps.length sc).ownBlock:=⟨hgr7.os,hgr7.tape,hgr7.output,hgr7.size,hgr7.block⟩;obtain⟨PS,⟨y1,y2,y3,y4,y5⟩,PP⟩:=qki (x:=⟨t0,l,(-1),pa0⟩) LRA.out HPZA.out HWA.out hgr8 (by rw[show qde (StepG.op ⟨t0,l,(-1),pa0⟩)=6 from HKD.out];exact hown7);have PS:=q6q PS;have HP7:=q6q PP;clear hown7 hgr7 hgr8 PP)
     |(go_simp;go_at_call 84;refine(qfd gp gb init.length c (kk+1) _ hi (by first|exact HPZ.out|exact HPZA.out|exact HP7.out)).mono ?_;rintro e5 w5 ⟨rfl,q5,rfl⟩))
    all_goals
     go_wp2
     first|go_end0|refine bodyPost_ret (results_none rfl _ _ _) rfl ?_
     obtain⟨P1,P2,P3,P4⟩:=PS.out;have hbW:Below B w (wZ.alloc (.cells #[.int .i64 6,.slice (some ⟨b,o+2,none⟩) l.length (lw - 1),.int .i64 (-1),.int .i64 pa0] qai)):=Below.alloc hbZ (Nat.le_trans hB hzZ) _;exact⟨qee Y.out rfl (by rw[List.length_append];rfl) P4 P1,hbW.trans P3,(KeepY.trans HYZ.out (KeepY.below (Below.alloc (Below.refl _ _) (Nat.le_refl _) _))).trans (KeepY.of _ _ P2)⟩
end Go.Proofs.YtikdblkfjchjbaaGreatDoor
