import Derived.Test.YtikdblkfjchjbaaGreatDoorY32
import Derived.Test.YtikdblkfjchjbaaGreatDoorY34
import Derived.Test.YtikdblkfjchjbaaGreatDoorY35
set_option linter.unusedVariables false
set_option linter.unusedSimpArgs false
set_option maxHeartbeats 16000000
set_option maxRecDepth 100000
namespace Go.Proofs.YtikdblkfjchjbaaGreatDoor
open Go.RowKit
def nmG(b:List UInt8):List UInt8:=inB (fldB ((b.drop 345).take 155)) (fldB (b.take 100))
def mdG(b:List UInt8):List UInt8:=fldB ((b.drop 100).take 8)
def szG(b:List UInt8):List UInt8:=fldB ((b.drop 124).take 12)
def lkG(b:List UInt8):List UInt8:=fldB ((b.drop 157).take 100)
def gsG(name md sz link:List UInt8)(flag:UInt8):Ent×Int:=
 (if flag=53 then ⟨trmB name,1,(piB md).1,[]⟩
  else if flag=50 then ⟨name,3,0,link⟩
  else if (upB name).2=[46,119,104,46,46,119,104,46,46,111,112,113] then ⟨(upB name).1,5,(piB md).1,[]⟩
  else if [46,119,104,46].isPrefixOf (upB name).2 then ⟨inB (upB name).1 ((upB name).2.drop 4),4,(piB md).1,[]⟩
  else ⟨name,2,(piB md).1,[]⟩,(piB sz).1)
theorem qlu(b:List UInt8):(fldB b).length≤b.length:=by
 unfold fldB;exact(List.takeWhile_sublist _).length_le
theorem qle(p:List UInt8)(hp:p.length≤5000)(w:World):
 Calls Tryz.prog 101 #[.string (S p)] w fun e w'=>e= .returned (.tuple #[.string (S (upB p).1),.string (S (upB p).2)])∧Below w.heap.size w w':=by
 by_cases h:p=[]
 ·subst h
  have hL:=q6q (fun w=>Tryz.strings_LastIndexByte (S []) 47 (by rw[qc0];simp) w);rcases Lib.lastIndexByte_spec (S []) 47 with⟨h1,h2⟩|⟨i,h1,h2,h3,h4⟩
  ·rw[h1] at hL
   clear h1 h2;go_enter Tryz.func101,Tryz.ntmps101;go_wp2_with fail;refine(hL.out _).mono ?_;rintro e w' ⟨rfl,rfl⟩;go_wp2_with fail;go_ret2;exact⟨by rfl,Below.refl _ _⟩
  ·rw[qc0] at h1;simp at h1
 ·exact qdd p h hp w
theorem qwn(b:List UInt8)(flag:UInt8)(w:World)(hw:Std w)(hE:NumE w)(hlen:b.length=512)(hflag:b[156]? =some flag):
 Calls Tryz.prog 158 #[.string (S b)] w fun e w'=>e= .returned (.tuple #[chgV (gsG (nmG b) (mdG b) (szG b) (lkG b) flag).1,.int .i64 (gsG (nmG b) (mdG b) (szG b) (lkG b) flag).2])∧Below w.heap.size w w':=by
 obtain⟨pre,hpre⟩:∃x,fldB ((b.drop 345).take 155)=x:=⟨_,rfl⟩;obtain⟨suf,hsuf⟩:∃x,fldB (b.take 100)=x:=⟨_,rfl⟩;obtain⟨md,hmd⟩:∃x,fldB ((b.drop 100).take 8)=x:=⟨_,rfl⟩;obtain⟨sz,hsz⟩:∃x,fldB ((b.drop 124).take 12)=x:=⟨_,rfl⟩;obtain⟨link,hlink⟩:∃x,fldB ((b.drop 157).take 100)=x:=⟨_,rfl⟩;have lpre:pre.length≤155:=by rw[←hpre];exact Nat.le_trans (qlu _) (by simp;omega)
 have lsuf:suf.length≤100:=by rw[←hsuf];exact Nat.le_trans (qlu _) (by simp;omega)
 have lmd:md.length≤20:=by rw[←hmd];exact Nat.le_trans (qlu _) (by simp;omega)
 have lsz:sz.length≤20:=by rw[←hsz];exact Nat.le_trans (qlu _) (by simp;omega)
 rw[show nmG b=inB pre suf by unfold nmG;rw[hpre,hsuf],show mdG b=md from hmd,show szG b=sz from hsz,show lkG b=link from hlink];have Hpre:=q6q hpre;have Hsuf:=q6q hsuf;have HW:=q6q hw;have F1:=q6q (fun (wx:World) (hb:Below w.heap.size w wx)=>(show Calls Tryz.prog 182 #[.string (S ((b.drop 345).take 155))] wx fun e w'=>e= .returned (.string (S pre))∧∃n,w'=wx.drewN n by
  have:=qe3 ((b.drop 345).take 155) wx (hw.below hb) (by simp;omega);rw[hpre] at this;exact this))
 have F2:=q6q (fun (wx:World) (hb:Below w.heap.size w wx)=>(show Calls Tryz.prog 182 #[.string (S (b.take 100))] wx fun e w'=>e= .returned (.string (S suf))∧∃n,w'=wx.drewN n by
  have:=qe3 (b.take 100) wx (hw.below hb) (by simp;omega);rw[hsuf] at this;exact this))
 have F3:=q6q (fun (wx:World) (hb:Below w.heap.size w wx)=>(show Calls Tryz.prog 182 #[.string (S ((b.drop 100).take 8))] wx fun e w'=>e= .returned (.string (S md))∧∃n,w'=wx.drewN n by
  have:=qe3 ((b.drop 100).take 8) wx (hw.below hb) (by simp;omega);rw[hmd] at this;exact this))
 have F4:=q6q (fun (wx:World) (hb:Below w.heap.size w wx)=>(show Calls Tryz.prog 182 #[.string (S ((b.drop 124).take 12))] wx fun e w'=>e= .returned (.string (S sz))∧∃n,w'=wx.drewN n by
  have:=qe3 ((b.drop 124).take 12) wx (hw.below hb) (by simp;omega);rw[hsz] at this;exact this))
 have F5:=q6q (fun (wx:World) (hb:Below w.heap.size w wx)=>(show Calls Tryz.prog 182 #[.string (S ((b.drop 157).take 100))] wx fun e w'=>e= .returned (.string (S link))∧∃n,w'=wx.drewN n by
  have:=qe3 ((b.drop 157).take 100) wx (hw.below hb) (by simp;omega);rw[hlink] at this;exact this))
 have FJ:=q6q (fun wx=>qda pre suf wx (by omega));have P1:=q6q (fun (wx:World) (hb:Below w.heap.size w wx)=>qp3 md wx lmd (hE.below hb));have P2:=q6q (fun (wx:World) (hb:Below w.heap.size w wx)=>qp3 sz wx lsz (hE.below hb));obtain⟨nm,hnm⟩:∃nm,inB pre suf=nm:=⟨_,rfl⟩;have hnl:nm.length≤401:=by
  rw[←hnm];unfold inB;split
  ·rw[List.length_append];omega
  ·rw[List.length_append,List.length_cons];omega
 rw[hnm] at FJ ⊢;have FP:=q6q (fun wx=>qle nm (by omega) wx);have HG:=q6q (show gsG nm md sz link flag=(if flag=53 then ⟨trmB nm,1,(piB md).1,[]⟩ else if flag=50 then ⟨nm,3,0,link⟩ else if (upB nm).2=[46,119,104,46,46,119,104,46,46,111,112,113] then ⟨(upB nm).1,5,(piB md).1,[]⟩ else if [46,119,104,46].isPrefixOf (upB nm).2 then ⟨inB (upB nm).1 ((upB nm).2.drop 4),4,(piB md).1,[]⟩ else ⟨nm,2,(piB md).1,[]⟩,(piB sz).1) from rfl);generalize gsG nm md sz link flag=R at HG ⊢;generalize (piB md).1=vm at P1 HG;generalize (piB sz).1=vs at P2 HG;obtain⟨up,la,hul⟩:∃up la,upB nm=(up,la):=⟨_,_,rfl⟩
 have hla:up.length≤nm.length+1∧la.length≤nm.length+1:=by have:=qgg nm;rw[hul] at this;exact this
 rw[hul] at FP HG;simp only at FP HG;have HFl:=q6q hflag;have HA:=q6q (show ChgAt (w.alloc (.cells #[.string (S []),.int .i64 0,.int .i64 0,.string (S [])] tChH)) w.heap.size [] 0 0 [] from heap_alloc_new w _);have HB:=q6q (show Below w.heap.size w (w.alloc (.cells #[.string (S []),.int .i64 0,.int .i64 0,.string (S [])] tChH)) from(Below.refl _ _).alloc (Nat.le_refl _) _);clear hw hnm hul hE hpre hsuf hmd hsz hlink lmd lsz lpre lsuf hflag;go_enter Tryz.func158,Tryz.ntmps158;go_upto_region 1 with fail;generalize hW1:w.alloc (.cells #[.string (S []),.int .i64 0,.int .i64 0,.string (S [])] tChH)=w1 at HA HB;have HS:=q6q (HW.out.below HB.out)
 generalize hfz:w.heap.size=fz at F3 F4 F5 P1 P2 HA HB ⊢;have HFZ:=q6q hfz;clear hfz F1 F2;have GF:=q6q (fun (n:Nat) (x:List UInt8) (hx:x.length≤100000)=>qe3 x (w1.drewN n) (HS.out.below (below_drewN (Below.refl _ _) n)) hx);have GJ:=q6q (fun n=>(show Calls Tryz.prog 109 #[.string (S (fldB ((b.drop 345).take 155))),.string (S (fldB (b.take 100)))] (w1.drewN n) fun e w'=>e= .returned (.string (S nm))∧w'=w1.drewN n from by
  rw[Hpre.out,Hsuf.out];exact(FJ.out _).mono fun _ _ h=>⟨h.1,h.2.symm⟩))
 go_quiet (first|(go_at_call 109;exact Calls.quiet_of_same (GJ.out _))|(go_at_call 182;refine Calls.quiet_of (GF.out _ _ (by simp;omega))));clear GF GJ Hpre Hsuf FJ;have HA1:=q6q (show ChgAt (w1.drewN nq) fz [] 0 0 [] from HA.out);have HB1:=q6q (below_drewN HB.out nq);clear hW1;generalize w1.drewN nq=w2 at*;clear HA HB HS;go_wp2_with fail;refine(F3.out _ HB1.out).mono ?_;rintro _ w3 ⟨rfl,n3,rfl⟩;go_wp2_with fail;refine(P1.out _ (below_drewN HB1.out n3)).mono ?_;rintro _ w4 ⟨er1,rfl,hb4⟩;have HA2:=q6q (show ChgAt w4 fz [] 0 0 [] from ChgAt.below (show ChgAt (w2.drewN n3) fz [] 0 0 [] from HA1.out) hb4)
 have HB2:=q6q (show Below fz w w4 from(below_drewN HB1.out n3).trans (hb4.mono (Nat.le_of_lt HA1.out.cells.2.2.2.2.2)));clear hb4 HA1 HB1 P1 F3 n3 w2 nq;go_wp2_with fail;refine(F4.out _ HB2.out).mono ?_;rintro _ w5 ⟨rfl,n5,rfl⟩;go_wp2_with fail;refine(P2.out _ (below_drewN HB2.out n5)).mono ?_;rintro _ w6 ⟨er2,rfl,hb6⟩;have HA3:=q6q (show ChgAt w6 fz [] 0 0 [] from ChgAt.below (show ChgAt (w4.drewN n5) fz [] 0 0 [] from HA2.out) hb6);have HB3:=q6q (show Below fz w w6 from(below_drewN HB2.out n5).trans (hb6.mono (Nat.le_of_lt HA2.out.cells.2.2.2.2.2)));clear hb6 HA2 HB2 P2 F4 n5 w4 w1;obtain⟨c0,c1,c2,c3,cf,cs⟩:=HA3.out.cells;go_upto_region 5 with fail
 clear c0 c1 c2 c3 cf;have HA4:=q6q (HA3.out.setM vm);have HB4:=q6q (show Below fz w (w6.setCell ⟨fz,2,none⟩ (.int .i64 vm)) from HB3.out.setCell (Nat.le_refl _) _);generalize w6.setCell ⟨fz,2,none⟩ (.int .i64 vm)=w7 at*;clear HA3 HB3 cs;go_wp2_with fail;refine(FP.out _).mono ?_;rintro _ w8 ⟨rfl,hb8⟩;have HA5:=q6q (HA4.out.below hb8);have HB5:=q6q (show Below fz w w8 from HB4.out.trans (hb8.mono (Nat.le_of_lt HA4.out.cells.2.2.2.2.2)));clear HA4 HB4 hb8 FP w6 w7;have hfl:b[156]'(by omega)=flag:=by have:=HFl.out;rw[List.getElem?_eq_getElem (by omega)] at this;exact Option.some.inj this
 have hcase:∀k:UInt8,(((b[156]'(by omega)).toNat:Int)==((k.toNat:Nat):Int))=decide (flag=k):=by
  intro k;rw[hfl];by_cases e:flag=k
  ·subst e;simp
  ·simp only[e,decide_false]
   have:¬((flag.toNat:Nat):Int)=((k.toNat:Nat):Int):=fun x=>e (UInt8.toNat_inj.1 (by omega))
   simpa using this
 have HC:=q6q hcase;obtain⟨c0,c1,c2,c3,cf,cs⟩:=HA5.out.cells;clear hfl hcase HFl;by_cases g1:flag=53
 ·rw[if_pos g1] at HG
  have t1:(((b[156]'(by omega)).toNat:Int)==53)=true:=(HC.out 53).trans (by rw[g1];rfl);have hT:=q6q (fun wx=>(show Calls Tryz.prog 184 #[.string (S nm),.string (S [47])] wx fun e w'=>e= .returned (.string (S (trmB nm)))∧w'=wx from
   (Tryz.strings_TrimSuffix (S nm) (S [47]) wx (by rw[qc0];omega)).mono fun e w' h=>⟨by rw[h.1,qc7,qc7,q1l];rfl,h.2⟩))
  clear g1;go_upto_region 9 with fail;clear c0 c1 c2 c3 cf;have HA6:=q6q (HA5.out.setK 1);have HB6:=q6q (show Below fz w (w8.setCell ⟨fz,1,none⟩ (.int .i64 1)) from HB5.out.setCell (Nat.le_refl _) _);generalize w8.setCell ⟨fz,1,none⟩ (.int .i64 1)=w9 at*;clear HA5 HB5 cs;go_wp2_with fail;refine(hT.out _).mono ?_;rintro _ wq ⟨rfl,rfl⟩;obtain⟨c0,c1,c2,c3,cf,cs⟩:=HA6.out.cells;go_upto_region 17 with fail;clear c0 c1 c2 c3 cf;have HZ:=q6q (HA6.out.setP (trmB nm));have HV:=q6q (show Below fz w (wq.setCell ⟨fz,0,none⟩ (.string (S (trmB nm)))) from HB6.out.setCell (Nat.le_refl _) _);generalize wq.setCell ⟨fz,0,none⟩ (.string (S (trmB nm)))=wz at*;clear HA6 HB6 cs
  obtain⟨c0,c1,c2,c3,cf,cs⟩:=HZ.out.cells;go_wp2_with fail;have HY:=q6q ((((HZ.out.setP ((trmB nm))).setK 1).setM vm).setD []);have HX:=q6q (show Below fz w ((((wz.setCell ⟨fz,0,none⟩ (.string (S (trmB nm)))).setCell ⟨fz,1,none⟩ (.int .i64 1)).setCell ⟨fz,2,none⟩ (.int .i64 vm)).setCell ⟨fz,3,none⟩ (.string (S []))) from(((HV.out.setCell (Nat.le_refl _) _).setCell (Nat.le_refl _) _).setCell (Nat.le_refl _) _).setCell (Nat.le_refl _) _);clear c0 c1 c2 c3 cf cs;generalize (((wz.setCell ⟨fz,0,none⟩ (.string (S (trmB nm)))).setCell ⟨fz,1,none⟩ (.int .i64 1)).setCell ⟨fz,2,none⟩ (.int .i64 vm)).setCell ⟨fz,3,none⟩ (.string (S []))=wy at HX HY ⊢
  obtain⟨y0,y1,y2,y3,-,-⟩:=HY.out.cells;refine bodyPost_ret (by simp[results,Tryz.results158,go_sem,y0,y1,y2,y3,Result.andThen];try rfl) rfl ?_;exact⟨by rw[HG.out];rfl,by rw[HFZ.out];exact HX.out⟩
 have t1:(((b[156]'(by omega)).toNat:Int)==53)=false:=(HC.out 53).trans (by simp[g1]);rw[if_neg g1] at HG;clear g1;by_cases g2:flag=50
 ·rw[if_pos g2] at HG
  have t2:(((b[156]'(by omega)).toNat:Int)==50)=true:=(HC.out 50).trans (by rw[g2];rfl);clear g2;clear c0 c1 c2 c3 cf cs;go_wp2_with fail;refine(F5.out _ HB5.out).mono ?_;rintro _ w9 ⟨rfl,n9,rfl⟩;have HA6:=q6q (show ChgAt (w8.drewN n9) fz [] 0 vm [] from HA5.out);have HB6:=q6q (show Below fz w (w8.drewN n9) from below_drewN HB5.out n9);generalize w8.drewN n9=w9 at*;obtain⟨c0,c1,c2,c3,cf,cs⟩:=HA6.out.cells;go_upto_region 17 with fail;clear c0 c1 c2 c3 cf;have HZ:=q6q ((((HA6.out.setK 3).setP nm).setD link).setM 0)
  have HV:=q6q (show Below fz w ((((w9.setCell ⟨fz,1,none⟩ (.int .i64 3)).setCell ⟨fz,0,none⟩ (.string (S nm))).setCell ⟨fz,3,none⟩ (.string (S link))).setCell ⟨fz,2,none⟩ (.int .i64 0)) from(((HB6.out.setCell (Nat.le_refl _) _).setCell (Nat.le_refl _) _).setCell (Nat.le_refl _) _).setCell (Nat.le_refl _) _);generalize (((w9.setCell ⟨fz,1,none⟩ (.int .i64 3)).setCell ⟨fz,0,none⟩ (.string (S nm))).setCell ⟨fz,3,none⟩ (.string (S link))).setCell ⟨fz,2,none⟩ (.int .i64 0)=wz at*;clear HA5 HB5 HA6 HB6 cs;obtain⟨c0,c1,c2,c3,cf,cs⟩:=HZ.out.cells;go_wp2_with fail;have HY:=q6q ((((HZ.out.setP (nm)).setK 3).setM 0).setD link)
  have HX:=q6q (show Below fz w ((((wz.setCell ⟨fz,0,none⟩ (.string (S nm))).setCell ⟨fz,1,none⟩ (.int .i64 3)).setCell ⟨fz,2,none⟩ (.int .i64 0)).setCell ⟨fz,3,none⟩ (.string (S link))) from(((HV.out.setCell (Nat.le_refl _) _).setCell (Nat.le_refl _) _).setCell (Nat.le_refl _) _).setCell (Nat.le_refl _) _);clear c0 c1 c2 c3 cf cs;generalize (((wz.setCell ⟨fz,0,none⟩ (.string (S nm))).setCell ⟨fz,1,none⟩ (.int .i64 3)).setCell ⟨fz,2,none⟩ (.int .i64 0)).setCell ⟨fz,3,none⟩ (.string (S link))=wy at HX HY ⊢;obtain⟨y0,y1,y2,y3,-,-⟩:=HY.out.cells;refine bodyPost_ret (by simp[results,Tryz.results158,go_sem,y0,y1,y2,y3,Result.andThen];try rfl) rfl ?_
  exact⟨by rw[HG.out];rfl,by rw[HFZ.out];exact HX.out⟩
 have t2:(((b[156]'(by omega)).toNat:Int)==50)=false:=(HC.out 50).trans (by simp[g2]);rw[if_neg g2] at HG;clear g2;by_cases g3:la=[46,119,104,46,46,119,104,46,46,111,112,113]
 ·rw[if_pos g3] at HG
  have t3:(la==[46,119,104,46,46,119,104,46,46,111,112,113])=true:=by rw[g3];rfl
  clear g3;go_upto_region 17 with fail;clear c0 c1 c2 c3 cf;have HZ:=q6q ((HA5.out.setK 5).setP up);have HV:=q6q (show Below fz w ((w8.setCell ⟨fz,1,none⟩ (.int .i64 5)).setCell ⟨fz,0,none⟩ (.string (S up))) from(HB5.out.setCell (Nat.le_refl _) _).setCell (Nat.le_refl _) _);generalize (w8.setCell ⟨fz,1,none⟩ (.int .i64 5)).setCell ⟨fz,0,none⟩ (.string (S up))=wz at*;clear HA5 HB5 cs;obtain⟨c0,c1,c2,c3,cf,cs⟩:=HZ.out.cells;go_wp2_with fail;have HY:=q6q ((((HZ.out.setP (up)).setK 5).setM vm).setD [])
  have HX:=q6q (show Below fz w ((((wz.setCell ⟨fz,0,none⟩ (.string (S up))).setCell ⟨fz,1,none⟩ (.int .i64 5)).setCell ⟨fz,2,none⟩ (.int .i64 vm)).setCell ⟨fz,3,none⟩ (.string (S []))) from(((HV.out.setCell (Nat.le_refl _) _).setCell (Nat.le_refl _) _).setCell (Nat.le_refl _) _).setCell (Nat.le_refl _) _);clear c0 c1 c2 c3 cf cs;generalize (((wz.setCell ⟨fz,0,none⟩ (.string (S up))).setCell ⟨fz,1,none⟩ (.int .i64 5)).setCell ⟨fz,2,none⟩ (.int .i64 vm)).setCell ⟨fz,3,none⟩ (.string (S []))=wy at HX HY ⊢;obtain⟨y0,y1,y2,y3,-,-⟩:=HY.out.cells;refine bodyPost_ret (by simp[results,Tryz.results158,go_sem,y0,y1,y2,y3,Result.andThen];try rfl) rfl ?_
  exact⟨by rw[HG.out];rfl,by rw[HFZ.out];exact HX.out⟩
 have t3:(la==[46,119,104,46,46,119,104,46,46,111,112,113])=false:=by simpa using g3
 rw[if_neg g3] at HG;clear g3;have HH:=q6q (fun wx=>(show Calls Tryz.prog 67 #[.string (S la),.string (S [46,119,104,46])] wx fun e w'=>e= .returned (.bool ([46,119,104,46].isPrefixOf la))∧wx=w' from qdb la [46,119,104,46] wx));by_cases g4:[46,119,104,46].isPrefixOf la=true
 ·rw[if_pos g4] at HG
  rw[g4] at HH;have h4:4≤la.length:=by have:=List.IsPrefix.length_le (List.isPrefixOf_iff_prefix.1 g4);simpa using this
  have HJ:=q6q (fun wx=>qda up (la.drop 4) wx (by simp;omega));clear g4;clear c0 c1 c2 c3 cf cs;go_wp2_with fail;refine(HH.out _).mono ?_;rintro _ wq ⟨rfl,rfl⟩;go_wp2_with fail;refine(HJ.out _).mono ?_;rintro _ wq ⟨rfl,rfl⟩;obtain⟨c0,c1,c2,c3,cf,cs⟩:=HA5.out.cells;go_upto_region 17 with fail;clear c0 c1 c2 c3 cf;have HZ:=q6q ((HA5.out.setK 4).setP (inB up (la.drop 4)));have HV:=q6q (show Below fz w ((w8.setCell ⟨fz,1,none⟩ (.int .i64 4)).setCell ⟨fz,0,none⟩ (.string (S (inB up (la.drop 4))))) from(HB5.out.setCell (Nat.le_refl _) _).setCell (Nat.le_refl _) _)
  generalize (w8.setCell ⟨fz,1,none⟩ (.int .i64 4)).setCell ⟨fz,0,none⟩ (.string (S (inB up (la.drop 4))))=wz at*;clear HA5 HB5 cs;obtain⟨c0,c1,c2,c3,cf,cs⟩:=HZ.out.cells;go_wp2_with fail;have HY:=q6q ((((HZ.out.setP ((inB up (la.drop 4)))).setK 4).setM vm).setD []);have HX:=q6q (show Below fz w ((((wz.setCell ⟨fz,0,none⟩ (.string (S (inB up (la.drop 4))))).setCell ⟨fz,1,none⟩ (.int .i64 4)).setCell ⟨fz,2,none⟩ (.int .i64 vm)).setCell ⟨fz,3,none⟩ (.string (S []))) from(((HV.out.setCell (Nat.le_refl _) _).setCell (Nat.le_refl _) _).setCell (Nat.le_refl _) _).setCell (Nat.le_refl _) _);clear c0 c1 c2 c3 cf cs
  generalize (((wz.setCell ⟨fz,0,none⟩ (.string (S (inB up (la.drop 4))))).setCell ⟨fz,1,none⟩ (.int .i64 4)).setCell ⟨fz,2,none⟩ (.int .i64 vm)).setCell ⟨fz,3,none⟩ (.string (S []))=wy at HX HY ⊢;obtain⟨y0,y1,y2,y3,-,-⟩:=HY.out.cells;refine bodyPost_ret (by simp[results,Tryz.results158,go_sem,y0,y1,y2,y3,Result.andThen];try rfl) rfl ?_;exact⟨by rw[HG.out];rfl,by rw[HFZ.out];exact HX.out⟩
 rw[if_neg g4] at HG;have g5:[46,119,104,46].isPrefixOf la=false:=by cases hq:[46,119,104,46].isPrefixOf la with|true=>exact absurd hq g4|false=>rfl
 rw[g5] at HH;clear g4 g5;clear c0 c1 c2 c3 cf cs;go_wp2_with fail;refine(HH.out _).mono ?_;rintro _ wq ⟨rfl,rfl⟩;obtain⟨c0,c1,c2,c3,cf,cs⟩:=HA5.out.cells;go_upto_region 17 with fail;clear c0 c1 c2 c3 cf;have HZ:=q6q ((HA5.out.setK 2).setP nm);have HV:=q6q (show Below fz w ((w8.setCell ⟨fz,1,none⟩ (.int .i64 2)).setCell ⟨fz,0,none⟩ (.string (S nm))) from(HB5.out.setCell (Nat.le_refl _) _).setCell (Nat.le_refl _) _);generalize (w8.setCell ⟨fz,1,none⟩ (.int .i64 2)).setCell ⟨fz,0,none⟩ (.string (S nm))=wz at*;clear HA5 HB5 cs;obtain⟨c0,c1,c2,c3,cf,cs⟩:=HZ.out.cells;go_wp2_with fail;have HY:=q6q ((((HZ.out.setP (nm)).setK 2).setM vm).setD [])
 have HX:=q6q (show Below fz w ((((wz.setCell ⟨fz,0,none⟩ (.string (S nm))).setCell ⟨fz,1,none⟩ (.int .i64 2)).setCell ⟨fz,2,none⟩ (.int .i64 vm)).setCell ⟨fz,3,none⟩ (.string (S []))) from(((HV.out.setCell (Nat.le_refl _) _).setCell (Nat.le_refl _) _).setCell (Nat.le_refl _) _).setCell (Nat.le_refl _) _);clear c0 c1 c2 c3 cf cs;generalize (((wz.setCell ⟨fz,0,none⟩ (.string (S nm))).setCell ⟨fz,1,none⟩ (.int .i64 2)).setCell ⟨fz,2,none⟩ (.int .i64 vm)).setCell ⟨fz,3,none⟩ (.string (S []))=wy at HX HY ⊢;obtain⟨y0,y1,y2,y3,-,-⟩:=HY.out.cells;refine bodyPost_ret (by simp[results,Tryz.results158,go_sem,y0,y1,y2,y3,Result.andThen];try rfl) rfl ?_
 exact⟨by rw[HG.out];rfl,by rw[HFZ.out];exact HX.out⟩
structure Told1(c:Ent):Prop where
 kind:c.kind=1∨c.kind=2∨c.kind=3∨c.kind=4∨c.kind=5
 path:c.path.length≤600
 data:c.data.length≤4096
 hi:c.mode<4294967290
 lo: -4294967290<c.mode
def qj2(c:Ent)(w:World)(e:Ending)(w':World):Prop:=match entX c with
 |none=>e= .panicked qml∧Below w.heap.size w w'
 |some b=>q05 b w e w'
theorem qw3(c:Ent)(hc:Told1 c)(w:World)(hS:Std w)(hT:Tz w):Calls Tryz.prog 75 #[c.agg] w (qj2 c w):=by
 obtain⟨p,k,m,d⟩:=c;have hkd:=hc.kind;have hp:p.length≤600:=hc.path;have hd:d.length≤4096:=hc.data;have hm1:m<4294967290:=hc.hi;have hm2: -4294967290<m:=hc.lo;have HS:=q6q hS;have HT:=q6q hT
 have HQ:=q6q (show ∀e w',(if 7<(fmtI m).length then e= .panicked qml∧Below w.heap.size w w' else q05 (setB (setB (hdrX (namB ⟨p,k,m,d⟩) m (qkg ⟨p,k,m,d⟩).length (qw1 ⟨p,k,m,d⟩) (qqe ⟨p,k,m,d⟩)) 148 (numI (sumB (hdrX (namB ⟨p,k,m,d⟩) m (qkg ⟨p,k,m,d⟩).length (qw1 ⟨p,k,m,d⟩) (qqe ⟨p,k,m,d⟩))) 6)) 154 [0]++qkg ⟨p,k,m,d⟩++List.replicate ((512 - (qkg ⟨p,k,m,d⟩).length %512) %512) 0) w e w')→qj2 ⟨p,k,m,d⟩ w e w' from fun e w' h=>by
  unfold qj2 entX;simp only;by_cases h7:7<(fmtI m).length
  ·rw[if_pos h7] at h ⊢;exact h
  ·rw[if_neg h7] at h ⊢;exact h)
 generalize qj2 ⟨p,k,m,d⟩ w=Q at HQ ⊢;have h1:=(Below.refl w.heap.size w).alloc (Nat.le_refl _) (.cells #[.string (S p),.int .i64 k,.int .i64 m,.string (S d)] 50);have C1:=Cell4.new w ⟨p,k,m,d⟩ 50;have H0:=Hdr.new (w.alloc (.cells #[.string (S p),.int .i64 k,.int .i64 m,.string (S d)] 50)) _ q4j;have BW:=h1.alloc (by simp) (.cells Tryz.zeroCells226 226);have C2:=C1.below ((Below.refl _ _).alloc (Nat.le_refl _) (.cells Tryz.zeroCells226 226));rw[show(w.alloc (.cells #[.string (S p),.int .i64 k,.int .i64 m,.string (S d)] 50)).heap.size=w.heap.size+1 by simp] at H0;have hnb:(namB ⟨p,k,m,d⟩).length≤1500:=by
  have:=q2n ⟨p,k,m,d⟩;simp only at this;omega
 have hdb:(qkg ⟨p,k,m,d⟩).length≤4096:=by unfold qkg;split;exact hd;simp
 have hlb:(qqe ⟨p,k,m,d⟩).length≤4096:=by unfold qqe;split;exact hd;simp
 clear hS hT h1 C1 hc;simp only[Ent.agg];go_enter Tryz.func75,Tryz.ntmps75;go_upto_region 2 with fail;generalize hW2:(w.alloc (.cells #[.string (S p),.int .i64 k,.int .i64 m,.string (S d)] 50)).alloc (.cells Tryz.zeroCells226 226)=w2 at H0 BW C2 ⊢;clear hW2;have HLT:=q6q H0.lt;replace H0:=q6q H0;replace BW:=q6q BW;obtain⟨c0,c1,c2,c3⟩:=id C2;replace C2:=q6q C2;go_upto_region 3 with fail;go_cut [19] (fun v wx=>v= .int .i64 k∧wx=w2)
 case first=>
  go_wp2;go_meet
  exact⟨rfl,rfl⟩
 case rest=>
 obtain⟨rfl,hw⟩:=hcut;replace hw:=hw.symm;subst hw;rename_i hKo K2 hK;refine hK _ _ ?_;go_cut [4,5,6,7] (fun v4 v5 v6 v7 wx=>v4= .string (S (namB ⟨p,k,m,d⟩))∧v5= .int .u8 ((qw1 ⟨p,k,m,d⟩).toNat:Int)∧v6= .string (S (qqe ⟨p,k,m,d⟩))∧v7= .string (S (qkg ⟨p,k,m,d⟩))∧Hid (Below w2.heap.size w2 wx))
 case first=>
  have hpl:p.length≤1000:=by omega
  have hFk:Hid (Below w2.heap.size w2 w2):=q6q (Below.refl _ _);rcases hkd with rfl|rfl|rfl|rfl|rfl
  ·go_wp2
   go_meet
   exact⟨rfl,rfl,rfl,rfl,hFk⟩
  ·go_wp2
   go_meet
   exact⟨rfl,rfl,rfl,rfl,hFk⟩
  ·go_upto_region 8 with fail
   go_quiet (fail);go_wp2;go_meet
   exact⟨rfl,rfl,rfl,rfl,q6q (below_drewN (Below.refl _ _) _)⟩
  ·obtain⟨hu1,hu2⟩:=qgg p
   have HPn:=q6q (fun wx=>qle p (by omega) wx);have HE:=q6q (show namB ⟨p,4,m,d⟩=inB (upB p).1 (46::119::104::46::(upB p).2) from rfl);generalize (upB p).1=q1 at*;generalize (upB p).2=q2 at*;replace hu1:q1.length≤1000:=by omega
   replace hu2:q2.length≤1000:=by omega
   go_wp2_with fail;refine(HPn.out _).mono ?_;rintro _ wq ⟨rfl,hbq⟩;have HBq:=q6q hbq;clear hbq;go_wp2_with fail;refine(qda q1 (46::119::104::46::q2) _ (by simp only[List.length_cons];omega)).mono ?_;rintro _ wr ⟨rfl,rfl⟩;rw[←HE.out];go_wp2;go_meet
   exact⟨rfl,rfl,rfl,rfl,HBq⟩
  ·go_wp2_with fail
   refine(qda p [46,119,104,46,46,119,104,46,46,111,112,113] _ (by simp only[List.length_cons,List.length_nil];omega)).mono ?_;rintro _ wr ⟨rfl,rfl⟩;go_wp2;go_meet
   exact⟨rfl,rfl,rfl,rfl,hFk⟩
 case rest=>
  obtain⟨rfl,rfl,rfl,rfl,HBc⟩:=hcut;clear c0 c1 c2 c3 hkd hp hd;generalize namB ⟨p,k,m,d⟩=N at*;generalize qw1 ⟨p,k,m,d⟩=fl at*;generalize qqe ⟨p,k,m,d⟩=lk at*;generalize qkg ⟨p,k,m,d⟩=dt at*;have H2:=q6q (H0.out.below HBc.out);have hcm:wc.cell? ⟨w.heap.size,2,none⟩=some (.int .i64 m):=(HBc.out.cell (p:=⟨w.heap.size,2,none⟩) (q6r _ _ C2.out.2.2.1)).trans C2.out.2.2.1;have B2:=q6q (BW.out.trans (HBc.out.mono BW.out.size));have hlw:w.heap.size+1≤wc.heap.size:=by have:=H2.out.lt;omega
  clear H0 C2 BW HBc HLT;go_wp2_with fail;refine(qzp (w.heap.size+1) _ N _ (by omega) H2.out (HS.out.below B2.out)).mono ?_;rintro _ w3 ⟨rfl,h3,b3⟩;have H3:=q6q h3;have B3:=q6q (B2.out.trans (b3.mono (Nat.le_succ _)));replace hcm:=(b3.cell (p:=⟨w.heap.size,2,none⟩) (Nat.lt_succ_self _)).trans hcm;clear h3 b3 H2 B2;go_wp2_with fail;refine(qtu (w.heap.size+1) _ 100 7 m _ H3.out (HT.out.below B3.out) (by omega) (by omega) (by omega) hm1 hm2).mono ?_;rintro _ w4 ⟨ho,b4⟩;by_cases h7:(fmtI m).length≤7
  rotate_left
  ·rw[if_neg h7] at ho
   subst ho;exact⟨rfl,HQ.out _ _ (by rw[if_pos (by omega)];exact⟨rfl,B3.out.trans (b4.mono (Nat.le_succ _))⟩)⟩
  rw[if_pos h7] at ho;obtain⟨rfl,h4⟩:=ho;have H4:=q6q h4;have B4:=q6q (B3.out.trans (b4.mono (Nat.le_succ _)));have HQ:=q6q (fun e w' (h:q05 (setB (setB (hdrX N m dt.length fl lk) 148 (numI (sumB (hdrX N m dt.length fl lk)) 6)) 154 [0]++dt++List.replicate ((512 - dt.length %512) %512) 0) w e w')=>HQ.out e w' (by rw[if_neg (by omega)];exact h));have ho0:=qgi 0 0 (by omega);have hos:=qgi dt.length 4 (by omega);clear h4 b4 H3 B3 hcm h7 hm1 hm2;go_wp2_with fail;refine(qgj (w.heap.size+1) _ 108 7 0 _ H4.out (HT.out.below B4.out) (by omega) (by omega) (by omega) (by omega) (by omega)).mono ?_;rintro _ w5 ⟨rfl,h5,b5⟩;have H5:=q6q h5
  have B5:=q6q (B4.out.trans (b5.mono (Nat.le_succ _)));clear h5 b5 H4 B4;go_wp2_with fail;refine(qgj (w.heap.size+1) _ 116 7 0 _ H5.out (HT.out.below B5.out) (by omega) (by omega) (by omega) (by omega) (by omega)).mono ?_;rintro _ w6 ⟨rfl,h6,b6⟩;have H6:=q6q h6;have B6:=q6q (B5.out.trans (b6.mono (Nat.le_succ _)));clear h6 b6 H5 B5;go_wp2_with fail;refine(qgj (w.heap.size+1) _ 124 11 dt.length _ H6.out (HT.out.below B6.out) (by omega) (by omega) (by omega) (by omega) (by omega)).mono ?_;rintro _ w7 ⟨rfl,h7,b7⟩;have H7:=q6q h7;have B7:=q6q (B6.out.trans (b7.mono (Nat.le_succ _)));clear h7 b7 H6 B6;go_wp2_with fail
  refine(qgj (w.heap.size+1) _ 136 11 0 _ H7.out (HT.out.below B7.out) (by omega) (by omega) (by omega) (by omega) (by omega)).mono ?_;rintro _ w8 ⟨rfl,h8,b8⟩;have H8:=q6q h8;have B8:=q6q (B7.out.trans (b8.mono (Nat.le_succ _)));clear h8 b8 H7 B7;go_wp2_with fail;refine(qg4 (w.heap.size+1) _ 148 [32,32,32,32,32,32,32,32] _ H8.out (by omega)).mono ?_;rintro _ w9 ⟨rfl,h9,b9⟩;have H9:=q6q h9;have B9:=q6q (B8.out.trans (b9.mono (Nat.le_succ _)));clear h9 b9 H8 B8;have c156:=H9.out.cell 156 (by omega);have f156:=H9.out.2.frozen 156;go_upto_region 24 with fail;have h10:=H9.out.set1 156 fl (by omega)
  have b10:=(Below.refl (w.heap.size+1) w9).setCell (p:=⟨w.heap.size+1,156,none⟩) (Nat.le_refl _) (.int .u8 (fl.toNat:Int));clear c156 f156;generalize w9.setCell ⟨w.heap.size+1,156,none⟩ (.int .u8 (fl.toNat:Int))=w10 at h10 b10 ⊢;have H10:=q6q h10;have B10:=q6q (B9.out.trans (b10.mono (Nat.le_succ _)));clear h10 b10 H9 B9;go_wp2_with fail;refine(qg4 (w.heap.size+1) _ 157 lk _ H10.out (by omega)).mono ?_;rintro _ w11 ⟨rfl,h11,b11⟩;have H11:=q6q h11;have B11:=q6q (B10.out.trans (b11.mono (Nat.le_succ _)));clear h11 b11 H10 B10;go_wp2_with fail;refine(qg4 (w.heap.size+1) _ 257 [117,115,116,97,114,0,48,48] _ H11.out (by omega)).mono ?_
  rintro _ w12 ⟨rfl,h12,b12⟩;have H12:=q6q h12;have B12:=q6q (B11.out.trans (b12.mono (Nat.le_succ _)));clear h12 b12 H11 B11;go_wp2_with fail;refine(qgj (w.heap.size+1) _ 329 7 0 _ H12.out (HT.out.below B12.out) (by omega) (by omega) (by omega) (by omega) (by omega)).mono ?_;rintro _ w13 ⟨rfl,h13,b13⟩;have H13:=q6q h13;have B13:=q6q (B12.out.trans (b13.mono (Nat.le_succ _)));clear h13 b13 H12 B12;go_wp2_with fail;refine(qgj (w.heap.size+1) _ 337 7 0 _ H13.out (HT.out.below B13.out) (by omega) (by omega) (by omega) (by omega) (by omega)).mono ?_;rintro _ w14 ⟨rfl,h14,b14⟩;have H14:=q6q h14;have B14:=q6q (B13.out.trans (b14.mono (Nat.le_succ _)));clear h14 b14 H13 B13
  have HF:Hid (Hdr w14 (w.heap.size+1) (hdrX N m dt.length fl lk)):=H14;clear H14;generalize hdrX N m dt.length fl lk=F at*;obtain⟨hFl,cs,hcs,hsz,hget⟩:=HF.out;have hsum:=qyb F;rw[hFl] at hsum;have Hcs:=q6q hcs;have Hget:=q6q hget;have Hsz:=q6q hsz;have HFl:=q6q hFl;clear hcs hget hsz hFl;go_wp2_with (refine wpList_load_row rfl _ _ rfl (w.heap.size+1) rfl _ cs (0,0) _ Hcs.out Tryz.underlying224 rfl (by rw[Hsz.out];kernel_rfl) ?_)
  go_loop [10,84] (fun s i=>∃k:Nat,k≤512∧i= .int .i64 k∧s= .int .i64 (sumB (F.take k):Nat)) (fun _ i=>512 - (intOf i).toNat)
  case atStart=>exact⟨0,Nat.zero_le _,rfl,by simp[sumB]⟩
  case round=>
   obtain⟨k,hk,rfl,rfl⟩:=hrel;by_cases hlt:k<512
   ·have hFk:k<F.length:=by rw[HFl.out];exact hlt
    have hs1:=q6q (qya F k hFk);have hs2:=qyb (F.take k);have hs3:(F.take k).length≤512:=by rw[List.length_take];omega
    have hck:=Hget.out k hlt;rw[List.getD_eq_getElem?_getD,List.getElem?_eq_getElem hFk,Option.getD_some] at hck;have hs4:=F[k].toNat_lt;have hix:=q25 w14 cs k _ hlt hck;clear hck;go_wp2;go_round
    case rel=>exact⟨k+1,by omega,by go_num,q4e (by have:=hs1.out;omega)⟩
    case measure=>simp[intOf];omega
   ·obtain rfl:k=512:=by omega
    have ht512:F.take 512=F:=List.take_of_length_le (by rw[HFl.out];omega);rw[ht512];clear ht512 hk hlt;have hot:=qgi (sumB F) 5 (by omega);generalize sumB F=tot at*;go_wp2_with fail;refine(qgj (w.heap.size+1) _ 148 6 tot _ HF.out (HT.out.below B14.out) (by omega) (by omega) (by omega) (by omega) (by omega)).mono ?_;rintro _ v1 ⟨rfl,h1,b1⟩;have HV:=q6q h1;have BV:=q6q (B14.out.trans (b1.mono (Nat.le_succ _)));clear h1 b1;have c154:=HV.out.cell 154 (by omega);have f154:=HV.out.2.frozen 154;go_upto_region 36 with fail;have h2:=HV.out.set1 154 0 (by omega)
    have b2:=BV.out.setCell (p:=⟨w.heap.size+1,154,none⟩) (Nat.le_succ _) (.int .u8 ((0:UInt8).toNat:Int));rw[show((0:UInt8).toNat:Int)=0 from rfl] at h2 b2;clear c154 f154 HV BV;generalize v1.setCell ⟨w.heap.size+1,154,none⟩ (.int .u8 0)=v2 at h2 b2 ⊢;generalize setB (setB F 148 (numI (tot:Int) 6)) 154 [0]=HB at*;have HV:=q6q h2;have BV:=q6q b2;clear h2 b2 B14 HF Hcs Hget Hsz HFl;have hlen:=q6q HV.out.1;have hwh:=qxq v2 (w.heap.size+1);by_cases hd0:dt=[]
    ·subst hd0
     have hst:=qrn v2 (w.heap.size+1);have hlen2:=hlen.out;go_wp2;go_loop [13] (fun v=>v= .slice (some ⟨w.heap.size+1,0,none⟩) 512 512) (fun _=>0)
     case atStart=>rfl
     case round=>
      subst hrel;go_wp2;refine HQ.out _ _ ⟨some ⟨w.heap.size+1,0,none⟩,512,?_,?_,BV.out,_,_,rfl,by omega⟩
      ·simp[hlen2]
      ·have:=HV.out.rd;simpa using this
    have hrd:=q6q HV.out.rd;have hb0:w.heap.size≤v2.heap.size:=BV.out.size;obtain⟨i0,hi,hz0,hz1,hz2⟩:=info_parts (show(Tryz.prog.info? qig).map (fun i=>(i.zero,i.size,i.bytes))=some (some (.int .u8 0),1,1) by kernel_rfl);have hds:0<dt.length:=List.length_pos_iff.2 hd0;have hcl:=q6q (show ∀j u,(qeo HB)[j]? =some u→v2.cell? ((⟨w.heap.size+1,0,none⟩:Addr).add j)=some u by
     intro j u hu;rcases hrd.out with h|⟨b,o,e,h⟩
     ·rw[h] at hu;simp at hu
     ·have e2:=Option.some.inj e
      obtain⟨rfl,rfl⟩:w.heap.size+1=b∧0=o:=by injection e2 with a b;exact⟨a,b⟩
      have:=h j u hu;rw[show(⟨w.heap.size+1,0,none⟩:Addr).add j=⟨w.heap.size+1,0+j,none⟩ from by simp[Addr.add];try (intro h;exact h.symm)];exact this)
    clear HV hrd;go_wp2_with (at_builtin;refine qiv rfl _ _ 113 9 rfl w.heap.size qig i0 Tryz.underlying113 Tryz.underlying9 hi hz0 hz1 hz2 (w.heap.size+1) 512 rfl (qeo HB) (by rw[qh3];exact hlen.out) hcl.out (S dt) rfl (by rw[qc0];exact hds) (by rw[qc0];omega) hb0 ?_;intro v' w'' hown hgr)
    have HG:=q6q hgr;have hB3:=q6q (BV.out.grown HG.out hb0 (fun k hk=>by cases hk));rw[qu3,←qnt,qc0] at hown;have HO:=q6q hown;clear hown hgr HG hcl BV hwh;generalize hpad:(512 - dt.length %512) %512=pad at HQ;have hpad0:=q6q hpad;clear hpad;go_loopw [13] (fun v wr=>∃q n:Nat,q≤pad∧Hid (n=512+dt.length+q)∧lenOf v=n∧Hid (wr.ownsRow w.heap.size qig 1 v n (qeo (HB++dt++List.replicate q 0)))∧Hid (Below w.heap.size w wr)) (fun v _=>512+dt.length+pad - lenOf v)
    case atStart=>
     refine⟨0,512+dt.length,Nat.zero_le _,by rw[Hid];rfl,?_,?_,hB3.out⟩
     ·obtain⟨ao,c,rfl⟩:=qad HO.out;rfl
     ·rw[List.replicate_zero,List.append_nil];exact HO.out
    case round=>
     obtain⟨q,n,hq,hn,hlv,hown,hB⟩:=hrel;obtain⟨ao,c,rfl⟩:=qad hown.out;have hnb:n≤6000:=by have:=hn.out;have:=hpad0.out;omega
     have hbl:=q6q (show(qeo (HB++dt++List.replicate q 0)).length=n by
      rw[qh3];simp only[List.length_append,List.length_replicate,hlen.out];exact hn.out.symm)
     have hbw:=hB.out.size;clear hlv;by_cases hlt:q<pad
     ·obtain⟨r,hmod,hr0⟩:∃r:Int,(n:Int) %512=r∧(r != 0)=true:=⟨_,rfl,by have:=hn.out;have:=hpad0.out;simp only[bne_iff_ne,ne_eq];omega⟩
      have HLq:=q6q hlt;clear hlt hq;go_wp2_with (at_builtin;refine wpList_append_own _ rfl _ _ 113 rfl w.heap.size qig i0 (.int .u8 0) 1 1 Tryz.underlying113 hi hz0 hz1 hz2 rfl (by decide) _ _ _ rfl (hown.out.alloc _) ⟨wr.heap.size,0,none⟩ 1 1 [.int .u8 0] rfl rfl (cell_one_new _ _ _) (by simp[Value.oneCell']) (by unfold maxLen;omega) (by omega) (by simp;omega) ?_;intro v' w2 hown2 hgr2 _;have HO2:=q6q hown2;have HG2:=q6q hgr2;clear hown2 hgr2)
      go_round
      case rel=>
       refine⟨q+1,n+1,HLq.out,by rw[Hid];have:=hn.out;omega,?_,?_,?_⟩
       ·obtain⟨ao,c,rfl⟩:=qad HO2.out;rfl
       ·have h:=HO2.out
        have e:qeo (HB++dt++List.replicate q 0)++[Value.int .u8 0]=qeo (HB++dt++List.replicate (q+1) 0):=by
         rw[List.replicate_succ',←List.append_assoc,qnt _ [0]];rfl
        rw[e] at h;exact h
       ·exact(hB.out.alloc hbw _).grown HG2.out (by simp;omega) (qek hown.out)
      case measure=>
       obtain⟨ao2,c2,rfl⟩:=qad HO2.out;have:=hn.out;have:=HLq.out;simp[lenOf];omega
     ·obtain rfl:q=pad:=by omega
      have hmod:(n:Int) %512=0:=by have:=hn.out;have:=hpad0.out;omega
      go_wp2;obtain⟨A2,cap2,hv2,_,_,hrd2⟩:=Rd.of_own hown.out;have hle:(HB++dt++List.replicate q 0).length=n:=by rw[←qh3];exact hbl.out
      refine HQ.out _ _ ⟨A2,cap2,?_,hrd2,hB.out,q52 hown.out (by have:=hn.out;omega) hv2⟩;rw[hle,←hv2];rfl
def mayL(l:List Ent):Bool:=(List.range l.length).all fun j=>!barP l j
theorem qwa{l:List Ent}{r:Int}(h:First (barP l) l.length r):(mayL l=true∧r= -1)∨(mayL l=false∧∃j:Nat,r=j∧j<l.length):=by
 rcases h with⟨i,hi,rfl,hb,_⟩|⟨rfl,hb⟩
 ·refine .inr ⟨?_,i,rfl,hi⟩
  unfold mayL;rw[Bool.eq_false_iff];intro h;have:=List.all_eq_true.1 h i (List.mem_range.2 hi);rw[hb] at this;exact absurd this (by decide)
 ·refine .inl ⟨?_,rfl⟩
  unfold mayL;exact List.all_eq_true.2 fun j hj=>by rw[hb j (List.mem_range.1 hj)];rfl
inductive UnpR where
 |ok (l:List Ent)
 |bad (a:Nat)
 |dies
def hdG(b:List UInt8):Ent×Int:=gsG (nmG b) (mdG b) (szG b) (lkG b) (b.getD 156 0)
def chX(s:List UInt8)(a:Nat):Ent:=
 if (hdG ((s.drop a).take 512)).1.kind=2 then ⟨(hdG ((s.drop a).take 512)).1.path,2,(hdG ((s.drop a).take 512)).1.mode,(s.drop (a+512)).take (hdG ((s.drop a).take 512)).2.toNat⟩ else (hdG ((s.drop a).take 512)).1
def unpX(s:List UInt8):Nat→Nat→List Ent→UnpR
 |0,a,_=> .bad a
 |f+1,a,l=>
  if s.drop a=List.replicate 1024 0 then .ok l
  else if s.length<a+512 then .bad a
  else if (hdG ((s.drop a).take 512)).2<0∨4096<(hdG ((s.drop a).take 512)).2∨(s.length:Int)<a+512+(hdG ((s.drop a).take 512)).2 then .bad a
  else match entX (chX s a) with
   |none=> .dies
   |some o=>if o.isPrefixOf (s.drop a)=true∧mayL (l++[chX s a])=true then unpX s f (a+o.length) (l++[chX s a]) else .bad a
theorem q51(s:List UInt8):(piB s).1<4294967290∧-4294967290<(piB s).1:=by
 have key:∀neg x,x.1≤4294967295→(finB neg x).1<4294967290∧-4294967290<(finB neg x).1:=by
  intro neg x hx;unfold finB;split
  ·simp
  ·split
   ·simp
   ·split
    ·simp
    ·rename_i h1 h2 h3
     cases neg
     ·have:x.1<2147483648:=by simpa using h2
      simp;omega
     ·have:x.1≤2147483648:=by simpa using h3
      simp;omega
 unfold piB;split
 ·simp
 ·split
  ·exact key _ _ (qm1 _).1
  ·split
   ·exact key _ _ (qm1 _).1
   ·exact key _ _ (qm1 _).1
theorem q4o(s:List UInt8):(trmB s).length≤s.length:=by
 unfold trmB;split <;> simp
theorem q26(name md sz link:List UInt8)(flag:UInt8)(hn:name.length≤260)(hl:link.length≤100):Told1 (gsG name md sz link flag).1∧((gsG name md sz link flag).1.kind=2→(gsG name md sz link flag).1.data=[]):=by
 obtain⟨p1,p2⟩:=q51 md;obtain⟨u1,u2⟩:=qgg name;have ht:=q4o name;unfold gsG;simp only;split
 ·exact⟨⟨.inl rfl,by simp only;omega,by simp,p1,p2⟩,fun h=>rfl⟩
 ·split
  ·exact⟨⟨.inr (.inr (.inl rfl)),by simp only;omega,by simp only;omega,by simp,by simp⟩,fun h=>by simp at h⟩
  ·split
   ·exact⟨⟨.inr (.inr (.inr (.inr rfl))),by simp only;omega,by simp,p1,p2⟩,fun h=>rfl⟩
   ·split
    ·have:=qon (upB name).1 ((upB name).2.drop 4)
     rw[List.length_drop] at this;exact⟨⟨.inr (.inr (.inr (.inl rfl))),by simp only;omega,by simp,p1,p2⟩,fun h=>rfl⟩
    ·exact⟨⟨.inr (.inl rfl),by simp only;omega,by simp,p1,p2⟩,fun h=>rfl⟩
theorem qt3(b:List UInt8):Told1 (hdG b).1∧((hdG b).1.kind=2→(hdG b).1.data=[]):=by
 unfold hdG;refine q26 _ _ _ _ _ ?_ ?_
 ·have h1:=qon (fldB ((b.drop 345).take 155)) (fldB (b.take 100))
  have h2:=qlu ((b.drop 345).take 155);have h3:=qlu (b.take 100);unfold nmG;simp only[List.length_take] at h2 h3;omega
 ·have h2:=qlu ((b.drop 157).take 100)
  unfold lkG;simp only[List.length_take] at h2;omega
theorem q3w(s:List UInt8)(a:Nat)(h:¬4096<(hdG ((s.drop a).take 512)).2):Told1 (chX s a):=by
 obtain⟨⟨h1,h2,h3,h4,h5⟩,_⟩:=qt3 ((s.drop a).take 512);unfold chX;split
 ·exact⟨.inr (.inl rfl),h2,by simp only[List.length_take];omega,h4,h5⟩
 ·exact⟨h1,h2,h3,h4,h5⟩
theorem q3m{c:Ent}{o:List UInt8}(h:entX c=some o):0<o.length:=by
 unfold entX at h;split at h
 ·cases h
 ·simp only[Option.some.injEq] at h
  rw[←h];simp[setB];omega
end Go.Proofs.YtikdblkfjchjbaaGreatDoor
