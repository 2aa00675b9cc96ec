import Derived.Test.YtikdblkfjchjbaaGreatDoorY13
import Derived.Test.YtikdblkfjchjbaaGreatDoorY16
import Derived.Test.YtikdblkfjchjbaaGreatDoorY37
import Derived.Test.YtikdblkfjchjbaaGreatDoorY38
set_option linter.unusedVariables false
set_option linter.unusedSimpArgs false
set_option maxHeartbeats 16000000
set_option maxRecDepth 100000
namespace Go.Proofs.YtikdblkfjchjbaaGreatDoor
variable{β:Type}
abbrev EnvF:=List UInt8→Option (List UInt8)
def lenF(f:EnvF)(l:List Ent)(wk:List UInt8):Except Int (List Ent×EnvF×List UInt8):=if l.length≤40 then .ok (l,f,wk) else .error 10
def qep(r:Except Int (List Ent))(k:List Ent→Except Int β):Except Int β:=match r with
 |.error e=> .error e
 |.ok l=>k l
def qgc(r:Except Int (List UInt8))(k:List UInt8→Except Int β):Except Int β:=match r with
 |.error e=> .error e
 |.ok l=>k l
def qu6(c:List Ent)(kd:Int)(W:List (List UInt8))(l:List Ent)(f:EnvF)(wk:List UInt8):Except Int (List Ent×EnvF×List UInt8):=match W with
 |[x]=>qgc (wayL wk x) fun p=>if kd=3 then (if p=[] then .error 9 else if qh7 l p=none then .error 8 else lenF f (qfi l p true) wk)
  else qep (qdy l p) fun l2=>if kd=4 then lenF f l2 wk else lenF f l2 p
 |[x,y]=>if kd=1 then qep (qcv c l wk x y) fun l2=>lenF f l2 wk
  else if kd=2 then (match qjl c l wk x y with
   |none=> .ok (l,f,wk)
   |some r=>qep r fun l2=>lenF f l2 wk)
  else if kd=4 then qgc (wayL wk x) fun p=>qep (qdy l p) fun l2=>if p=[] then .error 9 else lenF f (qmg l2 ⟨p,1,(valM y:Int),[]⟩) wk
  else if kd=5 then (if qdt x=false then .error 1 else qgc (wayL wk y) fun p=>if p=[] then .error 9 else qep (qdy l (upB p).1) fun l2=>qep (layE l2 ⟨p,3,0,x⟩) fun l3=>lenF f l3 wk)
  else lenF (updE f x y) l wk
 |_=> .error 0
def qiz(c:List Ent)(kd:Int)(W:List (List UInt8))(l:List Ent)(f:EnvF)(wk:List UInt8):Except Int (List Ent×EnvF×List UInt8):=
 if ∃x∈W,180<x.length then .error 10 else qu6 c kd W l f wk
def q34(kd:Int)(W:List (List UInt8)):Prop:=(∃x,W=[x]∧(kd=3∨kd=4∨kd=7))∨∃x y,W=[x,y]∧(kd=1∨kd=2∨(kd=4∧qfr y=true)∨kd=5∨kd=6)
open Go.RowKit
def qun(w0 w:World)(n m:Nat)(l:List Ent)(t g mb:Nat)(E:Obj→Prop)(D:Nat→Prop)(wk:List UInt8)(r:Option (Except Int (List Ent)))(e:Ending)(w':World):Prop:=match r with
 |none=>e= .panicked qml∧StM w0 w' n l t g mb E D wk∧StayD D w w'
 |some r=>StOut w0 w m t g mb E D wk r e w'
theorem q00{w0 w:World}{n:Nat}{l:List Ent}{t g mb:Nat}{E:Obj→Prop}{D:Nat→Prop}{wk:List UInt8}(h:StM w0 w n l t g mb E D wk)(hS:Std w0)(hE:NumE w0)(hT:Tz w0)(hn:n<1000000000)(c:List Ent)(tc:Nat)(hC:CtxT w0 c tc)
 (src dst:List UInt8)(hs:src.length≤200)(hd:dst.length≤200)(hsh:∀e∈c,e.data.length≤100000):
 Calls Tryz.prog 95 #[.pointer (some ⟨g,0,none⟩),.pointer (some ⟨tc,0,none⟩),.string (S src),.string (S dst)] w (qun w0 w n (n+1900) l t g mb E D wk (qjl c l wk src dst)):=by
 have hfl:∀(a b c d:Value) (w:World),(Instr.field 47 (.agg #[a,b,c,d]) 3).run Tryz.prog w= .ok d w:=fun a b c d w=>by kernel_rfl
 obtain⟨R,hR⟩:∃R,qjl c l wk src dst=R:=⟨_,rfl⟩;rw[hR];have HM:=q6q h;have HS:=q6q hS;have HN:=q6q hE;have HT:=q6q hT;have HC:=q6q hC;have HR:=qfj [] src w (hS.below h.below) (by simp;omega);have HSh:=q6q hsh;have HQ:Hid (∀r e w',R=r→qun w0 w n (n+1900) l t g mb E D wk r e w'→qun w0 w n (n+1900) l t g mb E D wk R e w'):=q6q fun r e w' h1 h2=>by rw[h1];exact h2
 generalize hQQ:qun w0 w n (n+1900) l t g mb E D wk R=Q at HQ ⊢;clear hQQ;rcases qfu [] src with⟨p,e1,e2,e3⟩|⟨q,e1,e2⟩;rotate_left
 ·rw[e2] at HR
  have HR:=q6q HR;have HE:=q6q (show R=some (.error 1) by rw[←hR];unfold qjl;rw[e1]);clear e1 e2 hS hC h hsh hR hE hT;go_enter Tryz.func95,Tryz.ntmps95;go_wp2_with fail;refine HR.out.mono ?_;rintro _ w2 ⟨rfl,hb2⟩;have HB2:=q6q hb2;clear hb2 HR;go_wp2_with fail;refine(qcd 1 _).mono ?_;rintro _ w3 ⟨rfl,rfl⟩;exact⟨rfl,HQ.out _ _ _ HE.out ⟨rfl,(HM.out.after HB2.out).below,HM.out.stay HB2.out⟩⟩
 rw[e2] at HR;have HR:=q6q HR;have HP:=q6q e3;have hpl:=(qbb e3).1;have HE1:=q6q (show(match wayL wk dst with
  |.error k=>some (.error k)
  |.ok tp=>if qb3 c p=0 then some (.error 8) else if qb3 c p=2 then (match qh7 c p with
   |none=>some (.error 8)
   |some e=>match unpX e.data (e.data.length+1) 0 [] with
    |.dies=>none
    |.bad _=>some (.error 4)
    |.ok L=>match qdy l tp with
     |.error k=>some (.error k)
     |.ok l1=>some (qjn l1 tp L)) else some (.error 9))=R by rw[←hR];unfold qjl;rw[e1];try rfl)
 clear e1 e2 e3 hS hC h hsh hR hE hT;go_enter Tryz.func95,Tryz.ntmps95;go_wp2_with fail;refine HR.out.mono ?_;rintro _ w2 ⟨rfl,hb2⟩;have HB2:=q6q hb2;clear hb2 HR;go_wp2_with fail;refine(qbv 1 _).mono ?_;rintro _ w3 ⟨rfl,rfl⟩;go_wp2_with fail;refine(qfl (HM.out.after HB2.out) (HS.out.below (HM.out.after HB2.out).below) dst (by omega)).mono ?_;intro e w4 ⟨ho,hb4⟩;have HB4:=q6q (HB2.out.trans (hb4.mono HB2.out.size));clear hb4 HB2;cases hw:wayL wk dst with
 |error k=>
  rw[hw] at ho;obtain rfl:e=qeq k:=ho;have hk:=HE1.out;rw[hw] at hk;exact⟨rfl,HQ.out _ _ _ hk.symm ⟨rfl,(HM.out.after HB4.out).below,HM.out.stay HB4.out⟩⟩
 |ok tp=>
 rw[hw] at ho;obtain rfl:e= .returned (.string (S tp)):=ho;have htl:=(qbb (qca hw)).1;have HPt:=q6q (qca hw);have HE2:=HE1.out;rw[hw] at HE2;simp only at HE2;replace HE2:=q6q HE2;clear hw HE1;go_wp2_with fail;refine((HC.out.below (HM.out.after HB4.out).below).kind_any (HS.out.below (HM.out.after HB4.out).below) p (by omega)).mono ?_;rintro _ w6 ⟨rfl,hb6⟩;have HB6:=q6q (HB4.out.trans (hb6.mono HB4.out.size));clear hb6 HB4;obtain⟨z,hz⟩:∃z,qb3 c p=z:=⟨_,rfl⟩;rw[hz] at HE2 ⊢;have HZ:=q6q hz;clear hz;by_cases hz0:z=0
 ·subst hz0
  have hk:=HE2.out;rw[if_pos rfl] at hk;go_wp2_with fail;refine(qcd 8 _).mono ?_;rintro _ w7 ⟨rfl,rfl⟩;exact⟨rfl,HQ.out _ _ _ hk.symm ⟨rfl,(HM.out.after HB6.out).below,HM.out.stay HB6.out⟩⟩
 have hf0:(z != 0)=true:=bne_iff_ne.2 hz0;have HE3:=HE2.out;rw[if_neg hz0] at HE3;replace HE3:=q6q HE3;clear HE2;go_wp2_with fail;refine(qbv 8 _).mono ?_;rintro _ w7 ⟨rfl,rfl⟩;go_wp2_with fail;refine((HC.out.below (HM.out.after HB6.out).below).kind_any (HS.out.below (HM.out.after HB6.out).below) p (by omega)).mono ?_;rintro _ w8 ⟨rfl,hb8⟩;rw[HZ.out];have HB8:=q6q (HB6.out.trans (hb8.mono HB6.out.size));clear hb8 HB6;by_cases hz2:z=2
 rotate_left
 ·have hf2:(z==2)=false:=beq_eq_false_iff_ne.2 hz2
  have hk:=HE3.out;rw[if_neg hz2] at hk;go_wp2_with fail;refine(qcd 9 _).mono ?_;rintro _ w9 ⟨rfl,rfl⟩;exact⟨rfl,HQ.out _ _ _ hk.symm ⟨rfl,(HM.out.after HB8.out).below,HM.out.stay HB8.out⟩⟩
 subst hz2;have hpn:p≠[]:=fun e=>by have:=HZ.out;rw[e,show qb3 c []=1 from rfl] at this;exact absurd this (by decide)
 obtain⟨en,hen⟩:∃e,qh7 c p=some e:=by
  have hk:=HZ.out;unfold qb3 at hk;rw[if_neg hpn] at hk;unfold qh7;cases hf:c.find? (fun e=>decide (e.path=p)) with
  |some e=>exact⟨e,rfl⟩
  |none=>rw[hf] at hk;exact absurd hk (by decide)
 have HE4:=HE3.out;rw[if_pos rfl,hen] at HE4;simp only at HE4;replace HE4:=q6q HE4;clear HE3;have hsd:=HSh.out en (List.mem_of_find?_eq_some hen);have HUn:=q6q (fun (wx:World) (hb:Below w.heap.size w wx)=>qrl en.data wx hsd (HS.out.below (HM.out.after hb).below) (HN.out.below (HM.out.after hb).below) (HT.out.below (HM.out.after hb).below));have HEn:=q6q ((HC.out.below (HM.out.after HB8.out).below).entry_any (HS.out.below (HM.out.after HB8.out).below) p (by omega) hpn HP.out en hen);clear hen hpn;go_wp2_with fail;refine(qbv 9 _).mono ?_;rintro _ w9 ⟨rfl,rfl⟩;go_wp2_with fail;refine HEn.out.mono ?_;rintro _ w10 ⟨rfl,hb10⟩
 have HB10:=q6q (HB8.out.trans (hb10.mono HB8.out.size));clear hb10 HB8 HEn;rw[show Ent.agg ⟨p,en.kind,en.mode,en.data⟩= .agg #[.string (S p),.int .i64 en.kind,.int .i64 en.mode,.string (S en.data)] from rfl];go_wp2_with fail;refine(HUn.out _ HB10.out).mono ?_;rintro e w11 ⟨hu,hb11⟩;have HB11:=q6q (HB10.out.trans (hb11.mono HB10.out.size));have hsz10:=HB10.out.size;clear hb11 HB10 HUn;cases hun:unpX en.data (en.data.length+1) 0 [] with
 |dies=>
  rw[hun] at hu;obtain rfl:=hu;have hk:=HE4.out;rw[hun] at hk;exact⟨rfl,HQ.out _ _ _ hk.symm ⟨rfl,HM.out.after HB11.out,HM.out.stay HB11.out⟩⟩
 |bad a=>
  rw[hun] at hu;obtain rfl:=hu;have hk:=HE4.out;rw[hun] at hk;have hneg:decide ((a:Int)<0)=false:=decide_eq_false (by omega);go_wp2_with fail;refine(qcd 4 _).mono ?_;rintro _ w12 ⟨rfl,rfl⟩;exact⟨rfl,HQ.out _ _ _ hk.symm ⟨rfl,(HM.out.after HB11.out).below,HM.out.stay HB11.out⟩⟩
 |ok L=>
 rw[hun] at hu;obtain⟨v,rfl,hown⟩:=hu;have hmay:=q1h _ _ _ _ _ hun rfl;have hLl:=q43 hmay;have HMay:=q6q (fun k x (hx:L[k]? =some x)=>qty hmay hx);have HE5:=HE4.out;rw[hun] at HE5;simp only at HE5;replace HE5:=q6q HE5;obtain⟨AL,cL,rfl,_,_,hrd⟩:=Rd.of_own hown;have HRd:Hid (Rd w11 AL (ents L)):=q6q hrd;clear hun hmay hown hrd HE4;go_wp2_with fail;refine(qbv 4 _).mono ?_;rintro _ w12 ⟨rfl,rfl⟩;go_wp2_with fail;refine(qew (HM.out.after HB11.out) HS.out tp (by omega) (by omega)).mono ?_;intro e w13 ho;cases hmd:qdy l tp with
 |error k=>
  rw[hmd] at ho;obtain⟨rfl,hb13,hd13⟩:=ho;have hk:=HE5.out;rw[hmd] at hk;exact⟨rfl,HQ.out _ _ _ hk.symm ⟨rfl,hb13,(HM.out.stay HB11.out).trans hd13⟩⟩
 |ok l1=>
 rw[hmd] at ho;obtain⟨rfl,hm13,hk13,hd13⟩:=ho;have HE6:=HE5.out;rw[hmd] at HE6;simp only at HE6;replace HE6:=q6q HE6;have HM13:=q6q hm13;have HR13:=q6q (HRd.out.keepC hk13);have HK13:=q6q ((KeepC.below HB11.out).trans hk13);have HD13:=q6q ((HM.out.stay HB11.out).trans hd13);have HDm:=q6q HM.out.dmb;have HSz:=q6q HM.out.below.size;clear hmd hm13 hk13 hd13 HE5 HRd HB11 HC HSh HZ HP;go_wp2
 go_loopw [53] (fun vi wr=>∃(q:Nat) (l':List Ent),q≤L.length∧vi= .int .i64 q∧Hid (some (qjn l' tp (L.drop q))=R)∧Hid (StM w0 wr (n+12+13*q) l' t g mb E D wk)∧Hid (Rd wr AL (ents L))∧Hid (KeepC w wr)∧Hid (StayD D w wr)) (fun vi _=>L.length - (intOf vi).toNat)
 case atStart=>exact⟨0,l1,Nat.zero_le _,rfl,HE6,HM13,HR13,HK13,HD13⟩
 case round=>
  obtain⟨q,l',hq,rfl,HA,HMr,HRr,HKr,HDr⟩:=hrel;by_cases hlt:q<L.length
  ·obtain⟨b,o,hbA,hbb,x0,x1,x2,x3⟩:=qgq HRr.out (Below.refl _ _) q hlt
   subst hbA;obtain⟨c,hc⟩:∃c,L[q]=c:=⟨_,rfl⟩;have hmy:=HMay.out q c (by rw[List.getElem?_eq_getElem hlt,hc]);have hcp:=(qbb hmy.2.1).1;have HGd:=q6q hmy.2.2;have hdr:L.drop q=c::L.drop (q+1):=by rw[List.drop_eq_getElem_cons hlt,hc]
   have HA2:=HA.out;rw[hdr,qjn] at HA2;replace HA2:=q6q HA2;rw[hc] at x0 x1 x2 x3;clear hmy hdr hc HA;have hql:(q:Int)<(L.length:Int):=by omega
   go_upto_region 11 with fail;clear x0 x1 x2 x3;have hb14:Below wr.heap.size wr (wr.alloc (.cells #[.string (S c.path),.int .i64 c.kind,.int .i64 c.mode,.string (S c.data)] 50)):=(Below.refl _ _).alloc (Nat.le_refl _) _;have hbox:=Go.heap_alloc_new wr (.cells #[.string (S c.path),.int .i64 c.kind,.int .i64 c.mode,.string (S c.data)] 50);have z1:=(q6s HMr.out.blk).1;have z2:t<wr.heap.size:=by obtain⟨_,_,_,_,_,h3,_⟩:=HMr.out.tree;exact q6r _ _ h3
   have z3:=HMr.out.dlt _ HDm.out;have z6:=HMr.out.below.size;have z7:=HDr.out.1;have HM14:=q6q (HMr.out.after hb14);have HR14:=q6q (HRr.out.below hb14);have HK14:=q6q (HKr.out.trans (KeepC.below hb14));have HD14:=q6q (HDr.out.trans (HMr.out.stay hb14));have HDg:Hid (¬D wr.heap.size):=q6q fun hk=>by have:=HMr.out.dlt _ hk;omega
   generalize wr.alloc (.cells #[.string (S c.path),.int .i64 c.kind,.int .i64 c.mode,.string (S c.data)] 50)=w14 at hbox HM14 HR14 HK14 HD14 ⊢;generalize wr.heap.size=gx at*;have HBx:=q6q hbox;have q1:w14.cell? ⟨gx,1,none⟩=some (.int .i64 c.kind):=by rw[cell_of_row _ _ _ _ _ _ hbox];rfl
   clear hb14 hbox HMr HRr HKr HDr;by_cases hk4:c.kind<4
   rotate_left
   ·have hkf:decide (c.kind<4)=false:=decide_eq_false hk4
    have hk:=HA2.out;rw[if_neg hk4] at hk;go_wp2_with fail;refine(qcd 4 _).mono ?_;rintro _ w15 ⟨rfl,rfl⟩;exact⟨rfl,HQ.out _ _ _ hk.symm ⟨rfl,HM14.out.below,HD14.out⟩⟩
   obtain⟨hcn,hcg⟩:=HGd.out hk4;have HA3:=HA2.out;rw[if_pos hk4] at HA3;replace HA3:=q6q HA3;have HCn:=q6q hcn;have HCg:=q6q hcg;clear hcn hcg HGd HA2;go_wp2_with fail;refine(qbv 4 _).mono ?_;rintro _ w15 ⟨rfl,rfl⟩;clear q1;have q0:w14.cell? ⟨gx,0,none⟩=some (.string (S c.path)):=by rw[cell_of_row _ _ _ _ _ _ HBx.out];rfl
   have q9:w14.frozen? ⟨gx,0,none⟩=false:=frozen_of_row _ _ _ _ _ HBx.out;have hjl:=qt1 tp c.path;have HJn:=q6q (fun wx=>qda tp c.path wx (by omega));have HJq:=q6q (q4f tp HCn.out);obtain⟨y,hy⟩:∃y,inB tp c.path=y:=⟨_,rfl⟩;rw[hy] at hjl HJn HA3 HJq;clear hy;go_wp2_with fail;refine(HJn.out _).mono ?_;rintro _ w16 ⟨rfl,rfl⟩;go_upto_region 13 with fail;have hk1:=heap_setCell_same w14 gx 0 _ _ (.string (S y)) HBx.out;have hot:∀i,i≠gx→(w14.setCell ⟨gx,0,none⟩ (.string (S y))).heap[i]? =w14.heap[i]?:=fun i hi=>heap_setCell_other w14 ⟨gx,0,none⟩ i _ hi
   have hsz1:(w14.setCell ⟨gx,0,none⟩ (.string (S y))).heap.size=w14.heap.size:=by simp
   have hM1:=HM14.out.pokeC gx HBx.out (by decide) (by omega) (by omega) (by omega) (HM14.out.below.setCell (by show w0.heap.size≤gx;omega) _) (by rw[hsz1];exact Nat.le_refl _) (fun i hi _=>hot i hi);have HM1:=q6q hM1;have HR1:Hid (Rd (w14.setCell ⟨gx,0,none⟩ (.string (S y))) (some ⟨b,o,none⟩) (ents L)):=q6q (by
    rcases HR14.out with h|⟨b',o',e',hc'⟩
    ·exact .inl h
    ·cases e'
     exact .inr ⟨_,_,rfl,fun i u hu=>qap (hc' i u hu) (hot b (by omega))⟩)
   have HK1:Hid (KeepC w (w14.setCell ⟨gx,0,none⟩ (.string (S y)))):=q6q fun pa v hv=>by
    have hp:=q6r _ _ hv;exact(World.cell?_of_block (hot pa.block (by omega))).trans (HK14.out pa v hv)
   have HD1:Hid (StayD D w (w14.setCell ⟨gx,0,none⟩ (.string (S y)))):=q6q (HD14.out.trans ⟨by rw[hsz1];exact Nat.le_refl _,fun k hk=>hot k (fun e=>HDg.out (e▸hk))⟩);generalize w14.setCell ⟨gx,0,none⟩ (.string (S y))=W1 at hk1 HM1 HR1 HK1 HD1 ⊢;have HK2:=q6q hk1;clear hot hsz1 hM1 q0 q9 HM14 HR14 HK14 HD14 HBx HJn;have r0:W1.cell? ⟨gx,0,none⟩=some (.string (S y)):=by rw[cell_of_row _ _ _ _ _ _ hk1];rfl
   clear hk1;obtain⟨up1,up2⟩:=qgg y;go_wp2_with fail;refine(qdd y HJq.out (by omega) _).mono ?_;rintro _ w17 ⟨rfl,hb17⟩;have HB17:=q6q hb17;clear hb17 r0;have HM17:=q6q (HM1.out.after HB17.out);generalize hud:(upB y).1=ud at*;generalize (upB y).2=ue at*;have HUd:=q6q hud;clear hud;go_wp2_with fail;refine(qew HM17.out HS.out ud (by omega) (by omega)).mono ?_;intro e w18 ho;have HR17:=q6q (HR1.out.below HB17.out);have HK17:=q6q (HK1.out.trans (KeepC.below HB17.out));have HD17:=q6q (HD1.out.trans (HM1.out.stay HB17.out));have HBx17:=q6q ((HB17.out.block _ (q6s HK2.out).1).trans HK2.out);clear HR1 HK1 HD1 HK2 HM1;cases hmd:qdy l' ud with
   |error k=>
    rw[hmd] at ho;obtain⟨rfl,hb18,hd18⟩:=ho;have hk:=HA3.out;rw[hmd] at hk;exact⟨rfl,HQ.out _ _ _ hk.symm ⟨rfl,hb18,HD17.out.trans hd18⟩⟩
   |ok l2=>
   rw[hmd] at ho;obtain⟨rfl,hm18,hk18,hd18⟩:=ho;have HA4:=HA3.out;rw[hmd] at HA4;simp only at HA4;replace HA4:=q6q HA4;have HM18:=q6q hm18;have HR18:=q6q (HR17.out.keepC hk18);have HK18:=q6q (HK17.out.trans hk18);have HD18:=q6q (HD17.out.trans hd18);obtain⟨s0,s1,s2,s3⟩:w17.cell? ⟨gx,0,none⟩=some (.string (S y))∧w17.cell? ⟨gx,1,none⟩=some (.int .i64 c.kind)∧w17.cell? ⟨gx,2,none⟩=some (.int .i64 c.mode)∧w17.cell? ⟨gx,3,none⟩=some (.string (S c.data)):=by
    refine⟨?_,?_,?_,?_⟩ <;> rw[cell_of_row _ _ _ _ _ _ HBx17.out] <;> rfl
   have r0:=hk18 _ _ s0;have r1:=hk18 _ _ s1;have r2:=hk18 _ _ s2;have r3:=hk18 _ _ s3;clear hmd hm18 hk18 hd18 s0 s1 s2 s3 HR17 HK17 HD17 HM17 HA3 HBx17;have hgd:qbh ⟨y,c.kind,c.mode,c.data⟩=true:=by have:=HCg.out;unfold qbh at this ⊢;exact this
   have HLy:=q6q (qom HM18.out HS.out ⟨y,c.kind,c.mode,c.data⟩ (by show y.length≤5000;omega) HJq.out hgd (by omega));clear hgd;go_wp2_with fail;refine HLy.out.mono ?_;intro e w19 ho;cases hly:layE l2 ⟨y,c.kind,c.mode,c.data⟩ with
   |error k=>
    rw[hly] at ho;obtain⟨rfl,hb19,hd19⟩:=ho;have hk:=HA4.out;rw[hly] at hk;exact⟨rfl,HQ.out _ _ _ hk.symm ⟨rfl,hb19,HD18.out.trans hd19⟩⟩
   |ok l3=>
   rw[hly] at ho;obtain⟨rfl,hm19,hk19,hd19⟩:=ho;have HA5:=HA4.out;rw[hly] at HA5;simp only at HA5;replace HA5:=q6q HA5;have HM19:=q6q hm19;have HR19:=q6q (HR18.out.keepC hk19);have HK19:=q6q (HK18.out.trans hk19);have HD19:=q6q (HD18.out.trans hd19);clear hly hm19 hk19 hd19 HR18 HK18 HD18 HM18 HA4 r0 r1 r2 r3;go_wp2;go_roundw
   case rel=>exact⟨q+1,l3,by omega,by go_num,HA5,q6q (HM19.out.mono (by omega)),HR19,HK19,HD19⟩
   case measure=>simp[intOf];omega
  ·obtain rfl:q=L.length:=by omega
   have hk:=HA.out;rw[List.drop_length,qjn] at hk;go_wp2;go_end0
   exact HQ.out _ _ _ hk.symm ⟨rfl,HMr.out.mono (by omega),HKr.out,HDr.out⟩
end Go.Proofs.YtikdblkfjchjbaaGreatDoor
