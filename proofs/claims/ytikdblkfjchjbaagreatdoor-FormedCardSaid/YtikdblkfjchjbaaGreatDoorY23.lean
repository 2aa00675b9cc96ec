import Derived.Test.YtikdblkfjchjbaaGreatDoorY19
import Derived.Test.YtikdblkfjchjbaaGreatDoorY22
set_option linter.unusedVariables false
set_option linter.unusedSimpArgs false
set_option maxHeartbeats 16000000
set_option maxRecDepth 100000
namespace Go.Proofs.YtikdblkfjchjbaaGreatDoor
open Go.RowKit
variable{l:List WordG}
theorem qql(st:List StageG)(x0:WordG)(l:List WordG)(B gp b o lw c kk:Nat)(ao:Option Addr)(w:World)(h5:st.length≤5)(hbd:StB 50 st)(hk24:kk≤24)(hp:PB w gp ao st.length c kk)(hst:FStagesR B w st ao c)(hB:B≤w.heap.size)(hgp:B≤gp)(hord:Ord w)
 (hw:FWordsR w (some ⟨b,o,none⟩) (x0::l))(hg:GoodW (x0::l))(hl4:l.length+1≤2000)(hlc:l.length+1≤lw)(hlm:lw≤maxLen)(hne:st≠[])(ht:x0.text=qdk)(hlo:1≤l.length)(hhi:l.length≤2):
 Calls Tryz.prog 45 #[.pointer (some ⟨gp,0,none⟩),.slice (some ⟨b,o,none⟩) (l.length+1) lw] w fun e w'=>qdz B gp kk w w' e (qay st (x0::l) kk)∧Below B w w'∧KeepY w w':=by
 obtain⟨hf1,hf2,hf3,hfv,_⟩:=qni;rw[←ht] at hf1 hf2 hf3;obtain⟨H,init,y,gb,cs0,sv,vv,scs,rfl,rfl,hL⟩:=hst.last hne;obtain⟨sa,sc,rfl⟩:=qad hL.steps;obtain⟨va,vc,rfl⟩:=qad hL.vars;rw[List.length_append,List.length_singleton] at hp h5;have hi:init.length≤4:=by omega
 have hy:=hbd y (by simp);have hyv:=hy.1;have hys:=hy.2;have HL:=q6q hL;have hs0:((init.length:Int)+1==0)=false:=by rw[beq_eq_false_iff_ne];omega
 have hk0:kk+1≤9223372036854775807:=by omega
 clear hL hy;have HPB:=q6q hp;have HST:=q6q hst;have HW:=q6q hw;have HGL:=q6q (show GoodW l from fun x hx=>hg x (List.mem_cons_of_mem _ hx));have HO:=q6q hord;obtain⟨fa,fc,hb,m1,m2,ho⟩:=hw.one (k:=0) (by simp);rw[Nat.zero_mul,Nat.add_zero] at m1 m2;rw[show nth (x0::l) 0=x0 from rfl] at m1 m2 ho;have hgx:GoodA x0.l∧x0.l.length≤2000:=hg x0 (by simp);have HPl:=q6q (show ∀wx:World,Below w.heap.size w wx→Calls Tryz.prog 80 #[.agg #[.slice fa x0.pl.length fc,.int .i64 x0.at_]] wx fun e w'=>e= .returned (.tuple #[.string (S x0.text),.bool x0.flat])∧Below wx.heap.size wx w' from
  fun wx hb=>qbu x0 fa fc 0 _ wx hgx.1 hgx.2 rfl (qac ho hb))
 have hl0:(0:Int)<(l.length:Int)+1:=by omega
 have hl1':(1:Int)≤(l.length:Int)+1:=by omega
 have hlc':(l.length:Int)+1≤(lw:Int):=by omega
 have hlw:¬lw=1:=by omega
 have hr0:=qgn (st:=init++[y]) (ws:=x0::l) (n:=kk) hf3 (by rintro(h|h|h);exact absurd h.1 (by simp);simp at h;omega;simp at h;omega) (by rw[show(nth (x0::l) 0).text=x0.text from rfl,ht];decide);have HR:=q6q (show qay (init++[y]) (x0::l) kk=(match qf5 l with|.error f=> .error f|.ok _=>match qbn y.vars l with|some p=> .error (7,p)|none=>if 24<kk+1 then .error (10,x0.at_) else .ok (init++[⟨y.name,y.base,y.steps++[⟨x0.text,l,-1,x0.at_⟩],y.vars⟩])) by
  rw[hr0];unfold qfy;rw[show(nth (x0::l) 0).text=x0.text from rfl,ht];have h1:nth (x0::l) 2=nth l 1:=rfl;have hl:qci (init++[y]) qdk (x0::l)=(match qf5 l with|.error f=> .error f|.ok _=> .ok (-1,l)):=by
   unfold qci qf5;rw[if_neg (by decide),if_pos rfl,h1,show(x0::l).length=l.length+1 from rfl];simp only[show(l.length+1=3)=(l.length=2) by rw[eq_iff_iff];omega];by_cases hc:l.length=2∧((nth l 1).flat=false∨qfr (nth l 1).text=false)
   ·rw[if_pos hc,if_pos hc]
   ·rw[if_neg hc,if_neg hc];rfl
  rw[hl];cases qf5 l with
  |error f=>rfl
  |ok _=>
   simp only;rw[qey];cases qbn y.vars l with
   |some p=>rfl
   |none=>
    simp only;rw[qeb,if_neg (show ¬qdk=wENV by decide),List.append_nil];rfl)
 have HFR:=q6q hf1;have HKD:=q6q hf2;clear hf1 hf2 hf3 hr0 ht;clear hp hst hw hg hord ho hgx;generalize x0.text=t0 at*;generalize x0.pl.length=q0 at*;generalize x0.at_=pa0 at*;generalize x0.flat=fl0 at*;have hlo2:decide (l.length<1)=false:=by rw[decide_eq_false_iff_not];omega
 have hhi3:decide (2<l.length)=false:=by rw[decide_eq_false_iff_not];omega
 have hlo3:¬l.length<1:=by omega
 have hhi4:¬2<l.length:=by omega
 have hnf:∀w:World,(binOp .neq 176 (.func (Fn.func 125) #[] #[]) .nilFunc).run Tryz.prog w= .ok (.bool true) w:=fun _=>by kernel_rfl
 go_enter Tryz.func45,Tryz.ntmps45;go_wp2_with (first
  |(go_at_call 80;refine(HPl.out _ (Below.refl _ _)).mono ?_;rintro e1 w1 ⟨rfl,hb1⟩;have hO1:=q6q (HO.out.after hb1))
  |(go_at_call 81;refine(qau t0 _ hO1.out).mono ?_;rintro e2 w2 ⟨rfl,hb2⟩;rw[HFR.out];have hb12:=hb1.trans (hb2.mono hb1.size)))
 have hbA:Below w.heap.size w (w2.alloc (.cells #[.string (S t0),.int .i64 1,.int .i64 2,.func (Fn.func 125) #[] #[]] qa1)):=hb12.alloc hb12.size _;have HFB:=q6q (Blk4.new w2 (.string (S t0)) (.int .i64 1) (.int .i64 2) (.func (Fn.func 125) #[] #[]) qa1);have hgf:w.heap.size≤w2.heap.size:=hb12.size;generalize hWA:w2.alloc (.cells #[.string (S t0),.int .i64 1,.int .i64 2,.func (Fn.func 125) #[] #[]] qa1)=wA at*;generalize w2.heap.size=gf at*;clear hWA hb12 hb1 hb2 hO1;have k2A:=Below.cellAt hbA hb m2;have hOA:=q6q (HO.out.after hbA);have hzA:=hbA.size;obtain⟨p1,p2,p3,p4⟩:=(HPB.out.after (qab hbA)).blk2.facts;have hpl:=(HPB.out.after hbA).lt
 obtain⟨f0,f1,f2,f3,_,_,_,_⟩:=HFB.out.facts;have hfl:=HFB.out.lt;have hpA:wA.cell? ⟨gp,0,none⟩=some (.slice (some ⟨gb,0,none⟩) (init.length+1) c):=(HPB.out.after hbA).blk2.facts.1;go_region_held3 (fun w'=>w'.cell? ⟨b,o+1,none⟩=some (.int .i64 pa0)) (go_keep) (first|(go_at_call 82;refine(qam t0 _ (by first|exact hOA.out.after (qab (Below.refl _ _))|exact hOA.out.after (qab (Below.alloc (Below.refl _ _) (Nat.le_refl _) _)))).mono ?_;rintro e3 w3 ⟨rfl,rfl⟩;rw[HKD.out]))
 all_goals
  have hbB:Below w.heap.size w (wA.alloc (.cells #[.int .i64 4,.slice (some ⟨b,o+2,none⟩) l.length (lw - 1),.int .i64 (-1),.int .i64 pa0] qai)).drew:=qab (hbA.alloc hzA _);have HSB:=q6q (show SBlk (wA.alloc (.cells #[.int .i64 4,.slice (some ⟨b,o+2,none⟩) l.length (lw - 1),.int .i64 (-1),.int .i64 pa0] qai)).drew wA.heap.size 4 (some ⟨b,o+2,none⟩) l.length (lw - 1) (-1) pa0 from⟨heap_alloc_new wA _⟩);have HFX:=q6q (Blk4.drew (HFB.out.alloc' (.cells #[.int .i64 4,.slice (some ⟨b,o+2,none⟩) l.length (lw - 1),.int .i64 (-1),.int .i64 pa0] qai)));have hgs:w.heap.size≤wA.heap.size:=hzA;clear f0 f1 f2 f3 hfl p1 p2 p3 p4 hpl hpA k2A
  generalize hWB:(wA.alloc (.cells #[.int .i64 4,.slice (some ⟨b,o+2,none⟩) l.length (lw - 1),.int .i64 (-1),.int .i64 pa0] qai)).drew=wB at*;generalize wA.heap.size=gs at*;clear hWB;have hzB:=hbB.size;obtain⟨p1,p2,p3,p4⟩:=(HPB.out.after hbB).blk2.facts;have hpl:=(HPB.out.after hbB).lt;obtain⟨f0,f1,f2,f3,_,_,_,_⟩:=HFX.out.facts;have hfl:=HFX.out.lt;obtain⟨⟨g0,g1,g2,g3⟩,g4,g5,g6⟩:=HSB.out.facts;cases hr:qf5 l with
  |error fp=>
   obtain⟨f4,p4'⟩:=fp;have Y:=q6q (show qay (init++[y]) (x0::l) kk= .error (f4,p4') by rw[HR.out,hr]);have HVM:=q6q hr;clear hr HR;go_wp2_with (go_at_call 125;refine(qhy gp gs b (o+2) (lw - 1) pa0 4 (-1) l wB HSB.out ((HW.out.after hbB).drop 1) HGL.out hlo hhi).mono ?_;rintro e3 w3 ⟨ho3,hb3⟩;rw[HVM.out] at ho3;obtain⟨n6,rfl,h6,h7⟩:=ho3)
   exact⟨rfl,qah Y.out ⟨n6,rfl,Nat.le_trans hzB h6,h7⟩,(hbB.trans (hb3.mono hzB)).mono hB,KeepY.below (hbB.trans (hb3.mono hzB))⟩
  |ok xu=>
   have HVM:=q6q hr;cases hu:qbn y.vars l with
   |some q=>
    have Y:=q6q (show qay (init++[y]) (x0::l) kk= .error (7,q) by rw[HR.out,hr,hu]);have HV:=q6q hu;clear hr hu HR;go_wp2_with (first
     |(go_at_call 125;refine(qhy gp gs b (o+2) (lw - 1) pa0 4 (-1) l wB HSB.out ((HW.out.after hbB).drop 1) HGL.out hlo hhi).mono ?_;rintro e3 w3 ⟨ho3,hb3⟩;rw[HVM.out] at ho3;obtain rfl:=ho3;have hbM:=hbB.trans (hb3.mono hzB);have hzM:=hbM.size;have HSM:=q6q (HSB.out.after hb3);obtain⟨p1,p2,p3,p4⟩:=(HPB.out.after hbM).blk2.facts;have hpl:=(HPB.out.after hbM).lt;obtain⟨⟨g0,g1,g2,g3⟩,g4,g5,g6⟩:=HSM.out.facts)
     |(go_at_call 83;refine(qct gp gb init.length c kk y.vars va (some ⟨b,o+2,none⟩) vc l.length (lw - 1) l w3 hi ((HL.out.after hbM).varsAt (HPB.out.after hbM)) (by omega) ((HW.out.after hbM).drop 1) HGL.out rfl (by omega)).mono ?_;rintro e4 w4 ⟨ho4,hb4⟩;rw[HV.out] at ho4;obtain⟨n6,rfl,h6,h7⟩:=ho4))
    exact⟨rfl,qah Y.out ⟨n6,rfl,Nat.le_trans hzM h6,h7⟩,(hbM.trans (hb4.mono hzM)).mono hB,KeepY.below (hbM.trans (hb4.mono hzM))⟩
   |none=>
    have HV:=q6q hu;by_cases h24:24<kk+1
    ·have Y:=q6q (show qay (init++[y]) (x0::l) kk= .error (10,pa0) by rw[HR.out,hr,hu];simp only;rw[if_pos h24])
     have h24':(24:Int)<(kk:Int)+1:=by omega
     clear hr hu HR;go_wp2_with (first
      |(go_at_call 125;refine(qhy gp gs b (o+2) (lw - 1) pa0 4 (-1) l wB HSB.out ((HW.out.after hbB).drop 1) HGL.out hlo hhi).mono ?_;rintro e3 w3 ⟨ho3,hb3⟩;rw[HVM.out] at ho3;obtain rfl:=ho3;have hbM:=hbB.trans (hb3.mono hzB);have hzM:=hbM.size;have HSM:=q6q (HSB.out.after hb3);obtain⟨p1,p2,p3,p4⟩:=(HPB.out.after hbM).blk2.facts;have hpl:=(HPB.out.after hbM).lt;obtain⟨⟨g0,g1,g2,g3⟩,g4,g5,g6⟩:=HSM.out.facts)
      |(go_at_call 83;refine(qct gp gb init.length c kk y.vars va (some ⟨b,o+2,none⟩) vc l.length (lw - 1) l w3 hi ((HL.out.after hbM).varsAt (HPB.out.after hbM)) (by omega) ((HW.out.after hbM).drop 1) HGL.out rfl (by omega)).mono ?_;rintro e4 w4 ⟨ho4,hb4⟩;rw[HV.out] at ho4;obtain rfl:=ho4;have hbK:Below w.heap.size w w4:=hbM.trans (hb4.mono hzM);have HPK:=q6q (HPB.out.after hbK);have LRK:=q6q (HL.out.after hbK);have HSK:=q6q (HSM.out.after hb4);have HWK:=q6q ((HW.out.after hbK).drop 1);obtain⟨p1,p2,p3,p4⟩:=HPK.out.blk2.facts;have hpl:=HPK.out.lt;obtain⟨⟨g0,g1,g2,g3⟩,g4,g5,g6⟩:=HSK.out.facts;obtain⟨⟨g0,g1,g2,g3⟩,g4,g5,g6⟩:=(HSK.out.incP HPK.out.blkT (.int .i64 ((kk:Int)+1))).facts)
      |(go_at_call 43;refine(qaf 10 pa0 _).mono ?_;rintro e9 w9 ⟨rfl,rfl⟩))
     have hbZ:Below B w (w4.setCell ⟨gp,1,none⟩ (.int .i64 ((kk:Int)+1))):=Below.setCell (hbK.mono hB) hgp _;have hsZ:w.heap.size≤w4.heap.size:=hbK.size;exact⟨rfl,qah Y.out ⟨_,rfl,hsZ,qae _ _ _ (by simp)⟩,Below.alloc hbZ (by rw[World.size_setCell];exact Nat.le_trans hB hsZ) _,(KeepY.incP (KeepY.below hbK) HPK.out.blkT _).trans (KeepY.below (Below.alloc (Below.refl _ _) (Nat.le_refl _) _))⟩
    ·have Y:=q6q (show qay (init++[y]) (x0::l) kk= .ok (init++[⟨y.name,y.base,y.steps++[⟨t0,l,-1,pa0⟩],y.vars⟩]) by rw[HR.out,hr,hu];simp only;rw[if_neg h24])
     have h24':decide ((24:Int)<(kk:Int)+1)=false:=by rw[decide_eq_false_iff_not];omega
     clear hr hu HR;go_wp2_with (first
      |(go_at_call 125;refine(qhy gp gs b (o+2) (lw - 1) pa0 4 (-1) l wB HSB.out ((HW.out.after hbB).drop 1) HGL.out hlo hhi).mono ?_;rintro e3 w3 ⟨ho3,hb3⟩;rw[HVM.out] at ho3;obtain rfl:=ho3;have hbM:=hbB.trans (hb3.mono hzB);have hzM:=hbM.size;have HSM:=q6q (HSB.out.after hb3);obtain⟨p1,p2,p3,p4⟩:=(HPB.out.after hbM).blk2.facts;have hpl:=(HPB.out.after hbM).lt;obtain⟨⟨g0,g1,g2,g3⟩,g4,g5,g6⟩:=HSM.out.facts)
      |(go_at_call 83;refine(qct gp gb init.length c kk y.vars va (some ⟨b,o+2,none⟩) vc l.length (lw - 1) l w3 hi ((HL.out.after hbM).varsAt (HPB.out.after hbM)) (by omega) ((HW.out.after hbM).drop 1) HGL.out rfl (by omega)).mono ?_;rintro e4 w4 ⟨ho4,hb4⟩;rw[HV.out] at ho4;obtain rfl:=ho4;have hbK:Below w.heap.size w w4:=hbM.trans (hb4.mono hzM);have HPK:=q6q (HPB.out.after hbK);have LRK:=q6q (HL.out.after hbK);have HSK:=q6q (HSM.out.after hb4);have HWK:=q6q ((HW.out.after hbK).drop 1);obtain⟨p1,p2,p3,p4⟩:=HPK.out.blk2.facts;have hpl:=HPK.out.lt;obtain⟨⟨g0,g1,g2,g3⟩,g4,g5,g6⟩:=HSK.out.facts;obtain⟨⟨g0,g1,g2,g3⟩,g4,g5,g6⟩:=(HSK.out.incP HPK.out.blkT (.int .i64 ((kk:Int)+1))).facts))
     have HPZ:=q6q (HPK.out.inc (v:=(kk:Int)+1) (by omega));have LRZ:=q6q (LRK.out.incP HPK.out.blkT (.int .i64 ((kk:Int)+1)));have HSZ:=q6q (HSK.out.incP HPK.out.blkT (.int .i64 ((kk:Int)+1)));have HWZ:=q6q (HWK.out.incP HPK.out.blkT (.int .i64 ((kk:Int)+1)));have hbZ:Below B w (w4.setCell ⟨gp,1,none⟩ (.int .i64 ((kk:Int)+1))):=Below.setCell (hbK.mono hB) hgp _;have HYZ:=q6q (KeepY.incP (KeepY.below hbK) HPK.out.blkT (.int .i64 ((kk:Int)+1)));clear p1 p2 p3 p4 hpl g0 g1 g2 g3 g4 g5 g6;generalize hWZ:w4.setCell ⟨gp,1,none⟩ (.int .i64 ((kk:Int)+1))=wZ at*;clear hWZ;have hzZ:=hbZ.size;obtain⟨p1,p2,p3,p4⟩:=HPZ.out.blk2.facts
     have hpl:=HPZ.out.lt;obtain⟨⟨g0,g1,g2,g3⟩,g4,g5,g6⟩:=HSZ.out.facts;obtain⟨z1,z2,z3,z4,z5⟩:=LRZ.out.facts;have hHZ:=LRZ.out.hH;have hzAl:∀n:Nat,((wZ.drewN n).alloc (.cells #[.int .i64 4,.slice (some ⟨b,o+2,none⟩) l.length (lw - 1),.int .i64 (-1),.int .i64 pa0] qai)).cell? ⟨gb,init.length*4+2,none⟩=some (.slice sa y.steps.length sc):=fun n=>(World.cell?_alloc_lt _ _ _ z1).trans z2
     obtain⟨i2,hi2,hz6,hz7,hz8⟩:=info_parts (show(Tryz.prog.info? 123).map (fun i=>(i.zero,i.size,i.bytes))=some (some (.agg #[.int .i64 0,.slice none 0 0,.int .i64 0,.int .i64 0]),4,48) by kernel_rfl);have HPZA:=q6q (HPZ.out.after (Below.alloc (Below.refl _ _) (Nat.le_refl _) (.cells #[.int .i64 4,.slice (some ⟨b,o+2,none⟩) l.length (lw - 1),.int .i64 (-1),.int .i64 pa0] qai)));have LRA:=q6q (LRZ.out.alloc (.cells #[.int .i64 4,.slice (some ⟨b,o+2,none⟩) l.length (lw - 1),.int .i64 (-1),.int .i64 pa0] qai))
     have HWA:=q6q (HWZ.out.after (Below.alloc (Below.refl _ _) (Nat.le_refl _) (.cells #[.int .i64 4,.slice (some ⟨b,o+2,none⟩) l.length (lw - 1),.int .i64 (-1),.int .i64 pa0] qai)));go_region_law (first
      |(refine step_append_lies _ (by rfl) (.tmp 104) (.tmp 106) 116 (by rfl) H qai i2 (.agg #[.int .i64 0,.slice none 0 0,.int .i64 0,.int .i64 0]) 4 48 Tryz.underlying116 hi2 hz6 hz7 hz8 (by rfl) (by decide) (.slice sa y.steps.length sc) y.steps.length scs (by rfl) (by exact LRA.out.steps) ⟨_,0,none⟩ 1 1 [.int .i64 4,.slice (some ⟨b,o+2,none⟩) l.length (lw - 1),.int .i64 (-1),.int .i64 pa0] (by rfl) (by rfl) (by exact qdn wZ _ _ _ _ _ _ rfl) (by simp[Value.oneCell']) (by decide) (by unfold maxLen;omega) (by omega) (by simp;omega) _ (by rfl) ?_;intro g' c' w7 hown7 hgr7 _ _;have hgr8:(wZ.alloc (.cells #[.int .i64 4,.slice (some ⟨b,o+2,none⟩) l.length (lw - 1),.int .i64 (-1),.int .i64 pa0] qai)).grownBy w7 (Value.slice sa y.steps.length sc).ownBlock:=⟨hgr7.os,hgr7.tape,hgr7.output,hgr7.size,hgr7.block⟩;obtain⟨PS,⟨y1,y2,y3,y4,y5⟩,PP⟩:=qki (x:=⟨t0,l,(-1),pa0⟩) LRA.out HPZA.out HWA.out hgr8 (by rw[show qde (StepG.op ⟨t0,l,(-1),pa0⟩)=4 from HKD.out];exact hown7);have PS:=q6q PS;have HP7:=q6q PP;clear hown7 hgr7 hgr8 PP)
      |(go_simp;go_at_call 84;refine(qfd gp gb init.length c (kk+1) _ hi (by first|exact HPZ.out|exact HPZA.out|exact HP7.out)).mono ?_;rintro e5 w5 ⟨rfl,q5,rfl⟩))
     all_goals
      go_wp2
      first|go_end0|refine bodyPost_ret (results_none rfl _ _ _) rfl ?_
      obtain⟨P1,P2,P3,P4⟩:=PS.out;have hbW:Below B w (wZ.alloc (.cells #[.int .i64 4,.slice (some ⟨b,o+2,none⟩) l.length (lw - 1),.int .i64 (-1),.int .i64 pa0] qai)):=Below.alloc hbZ (Nat.le_trans hB hzZ) _;exact⟨qee Y.out rfl (by rw[List.length_append];rfl) P4 P1,hbW.trans P3,(KeepY.trans HYZ.out (KeepY.below (Below.alloc (Below.refl _ _) (Nat.le_refl _) _))).trans (KeepY.of _ _ P2)⟩
theorem qot{st:List StageG}{l':List WordG}{p:Nat}{k:Int}(h:qcf st l p= .ok (k,l')):l'=l∨l'=l.drop 1:=by
 unfold qcf at h;split at h
 ·cases h
 ·split at h
  ·cases h;exact .inl rfl
  ·split at h
   ·cases h
   ·split at h
    ·cases h
    ·cases h;exact .inr rfl
theorem qsu(st:List StageG)(x0:WordG)(l:List WordG)(B gp b o lw c kk:Nat)(ao:Option Addr)(w:World)(h5:st.length≤5)(hbd:StB 50 st)(hk24:kk≤24)(hp:PB w gp ao st.length c kk)(hst:FStagesR B w st ao c)(hB:B≤w.heap.size)(hgp:B≤gp)(hord:Ord w)
 (hw:FWordsR w (some ⟨b,o,none⟩) (x0::l))(hg:GoodW (x0::l))(hl4:l.length+1≤2000)(hlc:l.length+1≤lw)(hlm:lw≤maxLen)(hne:st≠[])(ht:x0.text=qfv)(hlo:2≤l.length)(hhi:l.length≤3):
 Calls Tryz.prog 45 #[.pointer (some ⟨gp,0,none⟩),.slice (some ⟨b,o,none⟩) (l.length+1) lw] w fun e w'=>qdz B gp kk w w' e (qay st (x0::l) kk)∧Below B w w'∧KeepY w w':=by
 obtain⟨hf1,hf2,hf3,hfv,_⟩:=qqt;rw[←ht] at hf1 hf2 hf3;obtain⟨H,init,y,gb,cs0,sv,vv,scs,rfl,rfl,hL⟩:=hst.last hne;obtain⟨sa,sc,rfl⟩:=qad hL.steps;obtain⟨va,vc,rfl⟩:=qad hL.vars;rw[List.length_append,List.length_singleton] at hp h5;have hi:init.length≤4:=by omega
 have hy:=hbd y (by simp);have hyv:=hy.1;have hys:=hy.2;have HL:=q6q hL;have hs0:((init.length:Int)+1==0)=false:=by rw[beq_eq_false_iff_ne];omega
 have hk0:kk+1≤9223372036854775807:=by omega
 clear hL hy;have HPB:=q6q hp;have HST:=q6q hst;have HW:=q6q hw;have HGL:=q6q (show GoodW l from fun x hx=>hg x (List.mem_cons_of_mem _ hx));have HO:=q6q hord;obtain⟨fa,fc,hb,m1,m2,ho⟩:=hw.one (k:=0) (by simp);rw[Nat.zero_mul,Nat.add_zero] at m1 m2;rw[show nth (x0::l) 0=x0 from rfl] at m1 m2 ho;have hgx:GoodA x0.l∧x0.l.length≤2000:=hg x0 (by simp);have HPl:=q6q (show ∀wx:World,Below w.heap.size w wx→Calls Tryz.prog 80 #[.agg #[.slice fa x0.pl.length fc,.int .i64 x0.at_]] wx fun e w'=>e= .returned (.tuple #[.string (S x0.text),.bool x0.flat])∧Below wx.heap.size wx w' from
  fun wx hb=>qbu x0 fa fc 0 _ wx hgx.1 hgx.2 rfl (qac ho hb))
 have hl0:(0:Int)<(l.length:Int)+1:=by omega
 have hl1':(1:Int)≤(l.length:Int)+1:=by omega
 have hlc':(l.length:Int)+1≤(lw:Int):=by omega
 have hlw:¬lw=1:=by omega
 have hr0:=qgn (st:=init++[y]) (ws:=x0::l) (n:=kk) hf3 (by rintro(h|h|h);exact absurd h.1 (by simp);simp at h;omega;simp at h;omega) (by rw[show(nth (x0::l) 0).text=x0.text from rfl,ht];decide);have HR:=q6q (show qay (init++[y]) (x0::l) kk=(match qcf (init++[y]) l x0.at_ with|.error f=> .error f|.ok (k,l')=>match qbn y.vars l' with|some p=> .error (7,p)|none=>if 24<kk+1 then .error (10,x0.at_) else .ok (init++[⟨y.name,y.base,y.steps++[⟨x0.text,l',k,x0.at_⟩],y.vars⟩])) by
  rw[hr0];unfold qfy;rw[show(nth (x0::l) 0).text=x0.text from rfl,ht];have hl:qci (init++[y]) qfv (x0::l)=qcf (init++[y]) l x0.at_:=by
   unfold qci;rw[if_pos rfl,qou _ _ _ (by omega)]
  rw[hl];cases qcf (init++[y]) l x0.at_ with
  |error f=>rfl
  |ok kl=>
   obtain⟨k,l'⟩:=kl;simp only;rw[qey];cases qbn y.vars l' with
   |some p=>rfl
   |none=>
    simp only;rw[qeb,if_neg (show ¬qfv=wENV by decide),List.append_nil];rfl)
 have HFR:=q6q hf1;have HKD:=q6q hf2;clear hf1 hf2 hf3 hr0 ht;clear hp hst hw hg hord ho hgx;generalize x0.text=t0 at*;generalize x0.pl.length=q0 at*;generalize x0.at_=pa0 at*;generalize x0.flat=fl0 at*;have hlo2:decide (l.length<2)=false:=by rw[decide_eq_false_iff_not];omega
 have hhi3:decide (3<l.length)=false:=by rw[decide_eq_false_iff_not];omega
 have hlo3:¬l.length<2:=by omega
 have hhi4:¬3<l.length:=by omega
 have hnf:∀w:World,(binOp .neq 176 (.func (Fn.func 124) #[] #[]) .nilFunc).run Tryz.prog w= .ok (.bool true) w:=fun _=>by kernel_rfl
 go_enter Tryz.func45,Tryz.ntmps45;go_wp2_with (first
  |(go_at_call 80;refine(HPl.out _ (Below.refl _ _)).mono ?_;rintro e1 w1 ⟨rfl,hb1⟩;have hO1:=q6q (HO.out.after hb1))
  |(go_at_call 81;refine(qau t0 _ hO1.out).mono ?_;rintro e2 w2 ⟨rfl,hb2⟩;rw[HFR.out];have hb12:=hb1.trans (hb2.mono hb1.size)))
 have hbA:Below w.heap.size w (w2.alloc (.cells #[.string (S t0),.int .i64 2,.int .i64 3,.func (Fn.func 124) #[] #[]] qa1)):=hb12.alloc hb12.size _;have HFB:=q6q (Blk4.new w2 (.string (S t0)) (.int .i64 2) (.int .i64 3) (.func (Fn.func 124) #[] #[]) qa1);have hgf:w.heap.size≤w2.heap.size:=hb12.size;generalize hWA:w2.alloc (.cells #[.string (S t0),.int .i64 2,.int .i64 3,.func (Fn.func 124) #[] #[]] qa1)=wA at*;generalize w2.heap.size=gf at*;clear hWA hb12 hb1 hb2 hO1;have k2A:=Below.cellAt hbA hb m2;have hOA:=q6q (HO.out.after hbA);have hzA:=hbA.size;obtain⟨p1,p2,p3,p4⟩:=(HPB.out.after (qab hbA)).blk2.facts;have hpl:=(HPB.out.after hbA).lt
 obtain⟨f0,f1,f2,f3,_,_,_,_⟩:=HFB.out.facts;have hfl:=HFB.out.lt;have hpA:wA.cell? ⟨gp,0,none⟩=some (.slice (some ⟨gb,0,none⟩) (init.length+1) c):=(HPB.out.after hbA).blk2.facts.1;go_region_held3 (fun w'=>w'.cell? ⟨b,o+1,none⟩=some (.int .i64 pa0)) (go_keep) (first|(go_at_call 82;refine(qam t0 _ (by first|exact hOA.out.after (qab (Below.refl _ _))|exact hOA.out.after (qab (Below.alloc (Below.refl _ _) (Nat.le_refl _) _)))).mono ?_;rintro e3 w3 ⟨rfl,rfl⟩;rw[HKD.out]))
 all_goals
  have hbB:Below w.heap.size w (wA.alloc (.cells #[.int .i64 1,.slice (some ⟨b,o+2,none⟩) l.length (lw - 1),.int .i64 (-1),.int .i64 pa0] qai)).drew:=qab (hbA.alloc hzA _);have HSB:=q6q (show SBlk (wA.alloc (.cells #[.int .i64 1,.slice (some ⟨b,o+2,none⟩) l.length (lw - 1),.int .i64 (-1),.int .i64 pa0] qai)).drew wA.heap.size 1 (some ⟨b,o+2,none⟩) l.length (lw - 1) (-1) pa0 from⟨heap_alloc_new wA _⟩);have HFX:=q6q (Blk4.drew (HFB.out.alloc' (.cells #[.int .i64 1,.slice (some ⟨b,o+2,none⟩) l.length (lw - 1),.int .i64 (-1),.int .i64 pa0] qai)));have hgs:w.heap.size≤wA.heap.size:=hzA;clear f0 f1 f2 f3 hfl p1 p2 p3 p4 hpl hpA k2A
  generalize hWB:(wA.alloc (.cells #[.int .i64 1,.slice (some ⟨b,o+2,none⟩) l.length (lw - 1),.int .i64 (-1),.int .i64 pa0] qai)).drew=wB at*;generalize wA.heap.size=gs at*;clear hWB;have hzB:=hbB.size;obtain⟨p1,p2,p3,p4⟩:=(HPB.out.after hbB).blk2.facts;have hpl:=(HPB.out.after hbB).lt;obtain⟨f0,f1,f2,f3,_,_,_,_⟩:=HFX.out.facts;have hfl:=HFX.out.lt;obtain⟨⟨g0,g1,g2,g3⟩,g4,g5,g6⟩:=HSB.out.facts;cases hr:qcf (init++[y]) l pa0 with
  |error fp=>
   obtain⟨f4,p4'⟩:=fp;have Y:=q6q (show qay (init++[y]) (x0::l) kk= .error (f4,p4') by rw[HR.out,hr]);have HVM:=q6q hr;clear hr HR;go_wp2_with (go_at_call 124;refine(qgr (init++[y]) l gp gs b (o+2) (lw - 1) pa0 _ c kk 1 (some ⟨gb,0,none⟩) wB (by rw[List.length_append];rfl) (by rw[List.length_append,List.length_singleton];omega) (by rw[List.length_append,List.length_singleton];omega) (HPB.out.after hbB) (HST.out.after hbB).st HSB.out ((HW.out.after hbB).drop 1) HGL.out hlo hhi (by omega) (by omega) (Nat.lt_of_lt_of_le HPB.out.lt hgs)).mono ?_;rintro e3 w3 ⟨ho3,hb3⟩;rw[HVM.out] at ho3;obtain⟨n6,rfl,h6,h7⟩:=ho3)
   exact⟨rfl,qah Y.out ⟨n6,rfl,Nat.le_trans hzB h6,h7⟩,(hbB.trans (hb3.mono hgs)).mono hB,KeepY.below (hbB.trans (hb3.mono hgs))⟩
  |ok kl=>
   obtain⟨k4,l4⟩:=kl;have HVM:=q6q hr;have hlw4:=qot hr;have HG4:=q6q (show GoodW l4 from by rcases hlw4 with rfl|rfl;exact HGL.out;exact qne HGL.out 1);have hl4n:l4.length≤1000:=by rcases hlw4 with rfl|rfl;omega;rw[List.length_drop];omega
   clear hlw4;cases hu:qbn y.vars l4 with
   |some q=>
    have Y:=q6q (show qay (init++[y]) (x0::l) kk= .error (7,q) by rw[HR.out,hr];simp only;rw[hu]);have HV:=q6q hu;clear hr hu HR;go_wp2_with (first
     |(go_at_call 124;refine(qgr (init++[y]) l gp gs b (o+2) (lw - 1) pa0 _ c kk 1 (some ⟨gb,0,none⟩) wB (by rw[List.length_append];rfl) (by rw[List.length_append,List.length_singleton];omega) (by rw[List.length_append,List.length_singleton];omega) (HPB.out.after hbB) (HST.out.after hbB).st HSB.out ((HW.out.after hbB).drop 1) HGL.out hlo hhi (by omega) (by omega) (Nat.lt_of_lt_of_le HPB.out.lt hgs)).mono ?_;rintro e3 w3 ⟨ho3,hb3⟩;rw[HVM.out] at ho3;obtain⟨rfl,A4,c4,hs3,hw3⟩:=ho3;have hbM:=hbB.trans (hb3.mono hgs);have hzM:=hbM.size;have HSM:=q6q hs3;have HWM:=q6q hw3;clear hs3 hw3;obtain⟨p1,p2,p3,p4⟩:=(HPB.out.after hbM).blk2.facts;have hpl:=(HPB.out.after hbM).lt;obtain⟨⟨g0,g1,g2,g3⟩,g4,g5,g6⟩:=HSM.out.facts)
     |(go_at_call 83;refine(qct gp gb init.length c kk y.vars va A4 vc l4.length c4 l4 w3 hi ((HL.out.after hbM).varsAt (HPB.out.after hbM)) (by omega) HWM.out HG4.out rfl hl4n).mono ?_;rintro e4 w4 ⟨ho4,hb4⟩;rw[HV.out] at ho4;obtain⟨n6,rfl,h6,h7⟩:=ho4))
    exact⟨rfl,qah Y.out ⟨n6,rfl,Nat.le_trans hzM h6,h7⟩,(hbM.trans (hb4.mono hzM)).mono hB,KeepY.below (hbM.trans (hb4.mono hzM))⟩
   |none=>
    have HV:=q6q hu;by_cases h24:24<kk+1
    ·have Y:=q6q (show qay (init++[y]) (x0::l) kk= .error (10,pa0) by rw[HR.out,hr];simp only;rw[hu];simp only;rw[if_pos h24])
     have h24':(24:Int)<(kk:Int)+1:=by omega
     clear hr hu HR;go_wp2_with (first
      |(go_at_call 124;refine(qgr (init++[y]) l gp gs b (o+2) (lw - 1) pa0 _ c kk 1 (some ⟨gb,0,none⟩) wB (by rw[List.length_append];rfl) (by rw[List.length_append,List.length_singleton];omega) (by rw[List.length_append,List.length_singleton];omega) (HPB.out.after hbB) (HST.out.after hbB).st HSB.out ((HW.out.after hbB).drop 1) HGL.out hlo hhi (by omega) (by omega) (Nat.lt_of_lt_of_le HPB.out.lt hgs)).mono ?_;rintro e3 w3 ⟨ho3,hb3⟩;rw[HVM.out] at ho3;obtain⟨rfl,A4,c4,hs3,hw3⟩:=ho3;have hbM:=hbB.trans (hb3.mono hgs);have hzM:=hbM.size;have HSM:=q6q hs3;have HWM:=q6q hw3;clear hs3 hw3;obtain⟨p1,p2,p3,p4⟩:=(HPB.out.after hbM).blk2.facts;have hpl:=(HPB.out.after hbM).lt;obtain⟨⟨g0,g1,g2,g3⟩,g4,g5,g6⟩:=HSM.out.facts)
      |(go_at_call 83;refine(qct gp gb init.length c kk y.vars va A4 vc l4.length c4 l4 w3 hi ((HL.out.after hbM).varsAt (HPB.out.after hbM)) (by omega) HWM.out HG4.out rfl hl4n).mono ?_;rintro e4 w4 ⟨ho4,hb4⟩;rw[HV.out] at ho4;obtain rfl:=ho4;have hbK:Below w.heap.size w w4:=hbM.trans (hb4.mono hzM);have HPK:=q6q (HPB.out.after hbK);have LRK:=q6q (HL.out.after hbK);have HSK:=q6q (HSM.out.after hb4);have HWK:=q6q (HWM.out.after hb4);obtain⟨p1,p2,p3,p4⟩:=HPK.out.blk2.facts;have hpl:=HPK.out.lt;obtain⟨⟨g0,g1,g2,g3⟩,g4,g5,g6⟩:=HSK.out.facts;obtain⟨⟨g0,g1,g2,g3⟩,g4,g5,g6⟩:=(HSK.out.incP HPK.out.blkT (.int .i64 ((kk:Int)+1))).facts)
      |(go_at_call 43;refine(qaf 10 pa0 _).mono ?_;rintro e9 w9 ⟨rfl,rfl⟩))
     have hbZ:Below B w (w4.setCell ⟨gp,1,none⟩ (.int .i64 ((kk:Int)+1))):=Below.setCell (hbK.mono hB) hgp _;have hsZ:w.heap.size≤w4.heap.size:=hbK.size;exact⟨rfl,qah Y.out ⟨_,rfl,hsZ,qae _ _ _ (by simp)⟩,Below.alloc hbZ (by rw[World.size_setCell];exact Nat.le_trans hB hsZ) _,(KeepY.incP (KeepY.below hbK) HPK.out.blkT _).trans (KeepY.below (Below.alloc (Below.refl _ _) (Nat.le_refl _) _))⟩
    ·have Y:=q6q (show qay (init++[y]) (x0::l) kk= .ok (init++[⟨y.name,y.base,y.steps++[⟨t0,l4,k4,pa0⟩],y.vars⟩]) by rw[HR.out,hr];simp only;rw[hu];simp only;rw[if_neg h24])
     have h24':decide ((24:Int)<(kk:Int)+1)=false:=by rw[decide_eq_false_iff_not];omega
     clear hr hu HR;go_wp2_with (first
      |(go_at_call 124;refine(qgr (init++[y]) l gp gs b (o+2) (lw - 1) pa0 _ c kk 1 (some ⟨gb,0,none⟩) wB (by rw[List.length_append];rfl) (by rw[List.length_append,List.length_singleton];omega) (by rw[List.length_append,List.length_singleton];omega) (HPB.out.after hbB) (HST.out.after hbB).st HSB.out ((HW.out.after hbB).drop 1) HGL.out hlo hhi (by omega) (by omega) (Nat.lt_of_lt_of_le HPB.out.lt hgs)).mono ?_;rintro e3 w3 ⟨ho3,hb3⟩;rw[HVM.out] at ho3;obtain⟨rfl,A4,c4,hs3,hw3⟩:=ho3;have hbM:=hbB.trans (hb3.mono hgs);have hzM:=hbM.size;have HSM:=q6q hs3;have HWM:=q6q hw3;clear hs3 hw3;obtain⟨p1,p2,p3,p4⟩:=(HPB.out.after hbM).blk2.facts;have hpl:=(HPB.out.after hbM).lt;obtain⟨⟨g0,g1,g2,g3⟩,g4,g5,g6⟩:=HSM.out.facts)
      |(go_at_call 83;refine(qct gp gb init.length c kk y.vars va A4 vc l4.length c4 l4 w3 hi ((HL.out.after hbM).varsAt (HPB.out.after hbM)) (by omega) HWM.out HG4.out rfl hl4n).mono ?_;rintro e4 w4 ⟨ho4,hb4⟩;rw[HV.out] at ho4;obtain rfl:=ho4;have hbK:Below w.heap.size w w4:=hbM.trans (hb4.mono hzM);have HPK:=q6q (HPB.out.after hbK);have LRK:=q6q (HL.out.after hbK);have HSK:=q6q (HSM.out.after hb4);have HWK:=q6q (HWM.out.after hb4);obtain⟨p1,p2,p3,p4⟩:=HPK.out.blk2.facts;have hpl:=HPK.out.lt;obtain⟨⟨g0,g1,g2,g3⟩,g4,g5,g6⟩:=HSK.out.facts;obtain⟨⟨g0,g1,g2,g3⟩,g4,g5,g6⟩:=(HSK.out.incP HPK.out.blkT (.int .i64 ((kk:Int)+1))).facts))
     have HPZ:=q6q (HPK.out.inc (v:=(kk:Int)+1) (by omega));have LRZ:=q6q (LRK.out.incP HPK.out.blkT (.int .i64 ((kk:Int)+1)));have HSZ:=q6q (HSK.out.incP HPK.out.blkT (.int .i64 ((kk:Int)+1)));have HWZ:=q6q (HWK.out.incP HPK.out.blkT (.int .i64 ((kk:Int)+1)));have hbZ:Below B w (w4.setCell ⟨gp,1,none⟩ (.int .i64 ((kk:Int)+1))):=Below.setCell (hbK.mono hB) hgp _;have HYZ:=q6q (KeepY.incP (KeepY.below hbK) HPK.out.blkT (.int .i64 ((kk:Int)+1)));clear p1 p2 p3 p4 hpl g0 g1 g2 g3 g4 g5 g6;generalize hWZ:w4.setCell ⟨gp,1,none⟩ (.int .i64 ((kk:Int)+1))=wZ at*;clear hWZ;have hzZ:=hbZ.size;obtain⟨p1,p2,p3,p4⟩:=HPZ.out.blk2.facts
     have hpl:=HPZ.out.lt;obtain⟨⟨g0,g1,g2,g3⟩,g4,g5,g6⟩:=HSZ.out.facts;obtain⟨z1,z2,z3,z4,z5⟩:=LRZ.out.facts;have hHZ:=LRZ.out.hH;have hzAl:∀n:Nat,((wZ.drewN n).alloc (.cells #[.int .i64 1,.slice A4 l4.length c4,.int .i64 k4,.int .i64 pa0] qai)).cell? ⟨gb,init.length*4+2,none⟩=some (.slice sa y.steps.length sc):=fun n=>(World.cell?_alloc_lt _ _ _ z1).trans z2
     obtain⟨i2,hi2,hz6,hz7,hz8⟩:=info_parts (show(Tryz.prog.info? 123).map (fun i=>(i.zero,i.size,i.bytes))=some (some (.agg #[.int .i64 0,.slice none 0 0,.int .i64 0,.int .i64 0]),4,48) by kernel_rfl);have HPZA:=q6q (HPZ.out.after (Below.alloc (Below.refl _ _) (Nat.le_refl _) (.cells #[.int .i64 1,.slice A4 l4.length c4,.int .i64 k4,.int .i64 pa0] qai)));have LRA:=q6q (LRZ.out.alloc (.cells #[.int .i64 1,.slice A4 l4.length c4,.int .i64 k4,.int .i64 pa0] qai));have HWA:=q6q (HWZ.out.after (Below.alloc (Below.refl _ _) (Nat.le_refl _) (.cells #[.int .i64 1,.slice A4 l4.length c4,.int .i64 k4,.int .i64 pa0] qai)));go_region_law (first
      |(refine step_append_lies _ (by rfl) (.tmp 104) (.tmp 106) 116 (by rfl) H qai i2 (.agg #[.int .i64 0,.slice none 0 0,.int .i64 0,.int .i64 0]) 4 48 Tryz.underlying116 hi2 hz6 hz7 hz8 (by rfl) (by decide) (.slice sa y.steps.length sc) y.steps.length scs (by rfl) (by exact LRA.out.steps) ⟨_,0,none⟩ 1 1 [.int .i64 1,.slice A4 l4.length c4,.int .i64 k4,.int .i64 pa0] (by rfl) (by rfl) (by exact qdn wZ _ _ _ _ _ _ rfl) (by simp[Value.oneCell']) (by decide) (by unfold maxLen;omega) (by omega) (by simp;omega) _ (by rfl) ?_;intro g' c' w7 hown7 hgr7 _ _;have hgr8:(wZ.alloc (.cells #[.int .i64 1,.slice A4 l4.length c4,.int .i64 k4,.int .i64 pa0] qai)).grownBy w7 (Value.slice sa y.steps.length sc).ownBlock:=⟨hgr7.os,hgr7.tape,hgr7.output,hgr7.size,hgr7.block⟩;obtain⟨PS,⟨y1,y2,y3,y4,y5⟩,PP⟩:=qki (x:=⟨t0,l4,k4,pa0⟩) LRA.out HPZA.out HWA.out hgr8 (by rw[show qde (StepG.op ⟨t0,l4,k4,pa0⟩)=1 from HKD.out];exact hown7);have PS:=q6q PS;have HP7:=q6q PP;clear hown7 hgr7 hgr8 PP)
      |(go_simp;go_at_call 84;refine(qfd gp gb init.length c (kk+1) _ hi (by first|exact HPZ.out|exact HPZA.out|exact HP7.out)).mono ?_;rintro e5 w5 ⟨rfl,q5,rfl⟩))
     all_goals
      go_wp2
      first|go_end0|refine bodyPost_ret (results_none rfl _ _ _) rfl ?_
      obtain⟨P1,P2,P3,P4⟩:=PS.out;have hbW:Below B w (wZ.alloc (.cells #[.int .i64 1,.slice A4 l4.length c4,.int .i64 k4,.int .i64 pa0] qai)):=Below.alloc hbZ (Nat.le_trans hB hzZ) _;exact⟨qee Y.out rfl (by rw[List.length_append];rfl) P4 P1,hbW.trans P3,(KeepY.trans HYZ.out (KeepY.below (Below.alloc (Below.refl _ _) (Nat.le_refl _) _))).trans (KeepY.of _ _ P2)⟩
theorem qqd{st:List StageG}{op:List UInt8}{x:WordG}(h1:op≠qfv)(h2:op≠qdk)(h3:op≠wENV):qci st op (x::l)= .ok (-1,l):=by
 unfold qci;rw[if_neg h1,if_neg h2,if_neg h3];rfl
theorem qnc(st:List StageG)(x0:WordG)(l:List WordG)(B gp b o lw c kk:Nat)(ao:Option Addr)(w:World)(h5:st.length≤5)(hbd:StB 50 st)(hk24:kk≤24)(hp:PB w gp ao st.length c kk)(hst:FStagesR B w st ao c)(hB:B≤w.heap.size)(hgp:B≤gp)(hord:Ord w)
 (hw:FWordsR w (some ⟨b,o,none⟩) (x0::l))(hg:GoodW (x0::l))(hl4:l.length+1≤2000)(hlc:l.length+1≤lw)(hlm:lw≤maxLen):
 Calls Tryz.prog 45 #[.pointer (some ⟨gp,0,none⟩),.slice (some ⟨b,o,none⟩) (l.length+1) lw] w fun e w'=>qdz B gp kk w w' e (qay st (x0::l) kk)∧Below B w w'∧KeepY w w':=by
 have e:l.length+1=(x0::l).length:=rfl;have hn0:nth (x0::l) 0=x0:=rfl;cases hb:qbc x0.text with
 |none=>rw[e];exact qss st (x0::l) B gp b o lw c kk ao w h5 hbd hk24 hp hst hB hgp hord hw hg (by simp) hl4 hlc hlm hb
 |some lh=>
  obtain⟨lo,hi⟩:=lh;have hcs:=qwv hb;by_cases hbad:(st=[]∧x0.text≠qcq)∨(x0::l).length<lo+1∨hi+1<(x0::l).length
  ·rw[e]
   have N:=fun (kd:Int) (hf:qfn (nth (x0::l) 0).text lo hi .nilFunc kd) (hkd:kd=0↔(nth (x0::l) 0).text=qcq)=>qsq st (x0::l) B gp b o lw c kk ao w h5 hbd hk24 hp hst hB hgp hord hw hg (by simp) hl4 hlc hlm lo hi kd hf hkd hbad
   have G:=fun (F:Nat) (kd:Int) (hf:qfn (nth (x0::l) 0).text lo hi (.func (Fn.func F) #[] #[]) kd) (hkd:kd=0↔(nth (x0::l) 0).text=qcq)=>qsr st (x0::l) B gp b o lw c kk ao w h5 hbd hk24 hp hst hB hgp hord hw hg (by simp) hl4 hlc hlm lo hi F kd hf hkd hbad
   rw[hn0] at N G;rcases hcs with h|h|h|h|h|h|h|h
   ·rw[h] at hb N G;cases hb;exact G _ 0 qqs (by decide)
   ·rw[h] at hb N G;cases hb;exact G _ 1 qqt (by decide)
   ·rw[h] at hb N G;cases hb;exact N 2 qt6 (by decide)
   ·rw[h] at hb N G;cases hb;exact N 3 q0d (by decide)
   ·rw[h] at hb N G;cases hb;exact G _ 4 qni (by decide)
   ·rw[h] at hb N G;cases hb;exact N 5 qqr (by decide)
   ·rw[h] at hb N G;cases hb;exact G _ 6 qt5 (by decide)
   ·rw[h] at hb N G;cases hb;exact N 7 qj7 (by decide)
  ·have hlo:lo≤l.length:=Nat.le_of_not_lt fun h=>hbad (.inr (.inl (by rw[←e];omega)))
   have hhi:l.length≤hi:=Nat.le_of_not_lt fun h=>hbad (.inr (.inr (by rw[←e];omega)))
   have hne:x0.text≠qcq→st≠[]:=fun h1 h2=>hbad (.inl ⟨h2,h1⟩)
   have N:=fun (kd:Int) (hf:qfn x0.text lo hi .nilFunc kd) (hk1:kd≠0) (hk6:kd≠6) (h1:x0.text≠qfv) (h2:x0.text≠qdk) (hF:x0.text≠qcq) (hE:x0.text≠wENV) (hl:1≤lo) (hi3:hi≤3)=>qwk st x0 l B gp b o lw c kk ao w h5 hbd hk24 hp hst hB hgp hord hw hg hl4 hlc hlm (hne hF) lo hi kd hf hk1 hk6 (qqd h1 h2 hE) hF hE hlo hhi hl hi3
   rcases hcs with h|h|h|h|h|h|h|h
   ·rw[h] at hb;cases hb;exact qst st x0 l B gp b o lw c kk ao w h5 hbd hk24 hp hst hB hgp hord hw hg hl4 hlc hlm h hlo hhi
   ·have hF:x0.text≠qcq:=by rw[h];decide
    rw[h] at hb;cases hb;exact qsu st x0 l B gp b o lw c kk ao w h5 hbd hk24 hp hst hB hgp hord hw hg hl4 hlc hlm (hne hF) h hlo hhi
   ·rw[h] at hb N;cases hb;exact N 2 qt6 (by decide) (by decide) (by decide) (by decide) (by decide) (by decide) (by decide) (by decide)
   ·rw[h] at hb N;cases hb;exact N 3 q0d (by decide) (by decide) (by decide) (by decide) (by decide) (by decide) (by decide) (by decide)
   ·have hF:x0.text≠qcq:=by rw[h];decide
    rw[h] at hb;cases hb;exact qql st x0 l B gp b o lw c kk ao w h5 hbd hk24 hp hst hB hgp hord hw hg hl4 hlc hlm (hne hF) h hlo hhi
   ·rw[h] at hb N;cases hb;exact N 5 qqr (by decide) (by decide) (by decide) (by decide) (by decide) (by decide) (by decide) (by decide)
   ·have hF:x0.text≠qcq:=by rw[h];decide
    rw[h] at hb;cases hb;exact qwl st x0 l B gp b o lw c kk ao w h5 hbd hk24 hp hst hB hgp hord hw hg hl4 hlc hlm (hne hF) h hlo hhi
   ·rw[h] at hb N;cases hb;exact N 7 qj7 (by decide) (by decide) (by decide) (by decide) (by decide) (by decide) (by decide) (by decide)
end Go.Proofs.YtikdblkfjchjbaaGreatDoor
