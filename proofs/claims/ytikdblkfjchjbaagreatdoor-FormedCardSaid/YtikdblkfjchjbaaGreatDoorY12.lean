import Derived.Deep.RegionHeld3
import Derived.StillTailTactics
import Derived.Test.YtikdblkfjchjbaaGreatDoorY08
set_option linter.unusedVariables false
set_option linter.unusedSimpArgs false
set_option maxHeartbeats 16000000
set_option maxRecDepth 100000
namespace Go.Proofs.YtikdblkfjchjbaaGreatDoor
open Go.RowKit
variable{w w4:World}{a b c d:Value}{t:TypeId}{B g:Nat}{l:List Ent}
theorem qiu{a:World}(h:Below B a w):Below B a w.drew:=⟨h.os,h.tape,h.output,h.size,h.block⟩
theorem qdp{a:World}(h:Below B a w)(n:Nat):Below B a (w.drewN n):=⟨h.os,h.tape,h.output,h.size,h.block⟩
theorem qy0(w:World)(cs:List Value)(t:TypeId):Rd (w.alloc (.cells cs.toArray t)) (some ⟨w.heap.size,0,none⟩) cs:=by
 refine .inr ⟨_,0,rfl,fun i u hu=>?_⟩;rw[cell_of_row _ _ _ _ _ _ (Go.heap_alloc_new w _)];simpa using hu
def F4(w4:World)(g:Nat)(a b c d:Value):Prop:=(w4.cell? ⟨g,0,none⟩=some a∧w4.cell? ⟨g,1,none⟩=some b∧w4.cell? ⟨g,2,none⟩=some c∧w4.cell? ⟨g,3,none⟩=some d)∧(w4.frozen? ⟨g,0,none⟩=false∧w4.frozen? ⟨g,1,none⟩=false∧w4.frozen? ⟨g,2,none⟩=false∧w4.frozen? ⟨g,3,none⟩=false)∧g<w4.heap.size
theorem q57(hb:Below (w.alloc (.cells #[a,b,c,d] t)).heap.size (w.alloc (.cells #[a,b,c,d] t)) w4):F4 w4 w.heap.size a b c d:=by
 have h:w4.heap[w.heap.size]? =some (.cells #[a,b,c,d] t (0,0)):=(hb.block _ (by simp)).trans (heap_alloc_new w _);refine⟨⟨?_,?_,?_,?_⟩,⟨frozen_of_row _ _ _ _ _ h,frozen_of_row _ _ _ _ _ h,frozen_of_row _ _ _ _ _ h,frozen_of_row _ _ _ _ _ h⟩,(q6s h).1⟩ <;> rw[cell_of_row _ _ _ _ _ _ h] <;> rfl
theorem far4{h o:Nat}(hne:h≠g):((((w.setCell ⟨g,0,none⟩ a).setCell ⟨g,1,none⟩ b).setCell ⟨g,2,none⟩ c).setCell ⟨g,3,none⟩ d).cell? ⟨h,o,none⟩=w.cell? ⟨h,o,none⟩:=
 World.cell?_of_block (w:=w) (a:=⟨h,o,none⟩) (by
  rw[heap_setCell_other _ ⟨g,3,none⟩ h _ hne,heap_setCell_other _ ⟨g,2,none⟩ h _ hne,heap_setCell_other _ ⟨g,1,none⟩ h _ hne,heap_setCell_other _ ⟨g,0,none⟩ h _ hne])
theorem q5o(hb:Below (w.alloc (.cells #[a,b,c,d] t)).heap.size (w.alloc (.cells #[a,b,c,d] t)) w4):w4.heap[w.heap.size]? =some (.cells #[a,b,c,d] t (0,0)):=(hb.block _ (by simp)).trans (heap_alloc_new w _)
theorem set4(h:w.heap[g]? =some (.cells #[a,b,c,d] t (0,0)))(e:Ent):Cell4 ((((w.setCell ⟨g,0,none⟩ (.string (S e.path))).setCell ⟨g,1,none⟩ (.int .i64 e.kind)).setCell ⟨g,2,none⟩ (.int .i64 e.mode)).setCell ⟨g,3,none⟩ (.string (S e.data))) g e:=by
 have h1:=Go.heap_setCell_same w g 0 _ _ (.string (S e.path)) h;have h2:=Go.heap_setCell_same _ g 1 _ _ (.int .i64 e.kind) h1;have h3:=Go.heap_setCell_same _ g 2 _ _ (.int .i64 e.mode) h2;have h4:=Go.heap_setCell_same _ g 3 _ _ (.string (S e.data)) h3;refine⟨?_,?_,?_,?_⟩ <;> rw[cell_of_row _ _ _ _ _ _ h4] <;> rfl
theorem qy1(p:List UInt8)(w:World)(hp:p.length≤1000000):
 Calls Tryz.prog 22 #[.string (S p)] w fun e w'=>e= .returned (.string (S (qij p p.length)))∧w'=w:=by
 go_enter Tryz.func22,Tryz.ntmps22;go_wp2;go_loopw [3] (fun i wr=>∃k:Nat,k≤p.length∧i= .int .i64 ((k:Int) - 1)∧Hid (qij p p.length=qij p k)∧w=wr) (fun i _=>((intOf i)+1).toNat)
 case atStart=>exact⟨p.length,Nat.le_refl _,rfl,q6q rfl,rfl⟩
 case round=>
  obtain⟨k,hk,rfl,HR,rfl⟩:=hrel;cases k with
  |zero=>
   have HE:=q6q (show qij p p.length=[] from HR.out);have f:¬(0:Int)≤((0:Nat):Int) - 1:=by omega
   go_wp2;go_ret;exact⟨by(rw[HE.out] <;> rfl),rfl⟩
  |succ k=>
   have e1:((k+1:Nat):Int) - 1=(k:Int):=by omega
   rw[e1];have hkl:(k:Int)<(p.length:Int):=by omega
   have hk0:(0:Int)≤(k:Int):=by omega
   have hwr:IntKind.i64.wrap ((k:Int) - 1)=(k:Int) - 1:=by rw[IntKind.wrap_i64] <;> omega
   by_cases hc:p[k]=47
   ·have HE:=q6q (show qij p p.length=p.take k by rw[HR.out,qij,if_pos (by rw[List.getElem?_eq_getElem (by omega),hc])])
    have f:(((p[k]'(by omega)).toNat:Int)==47)=true:=by rw[hc];rfl
    go_wp2;go_ret;exact⟨by(rw[HE.out] <;> rfl),rfl⟩
   ·have HE:=q6q (show qij p p.length=qij p k by rw[HR.out,qij,if_neg (by rw[List.getElem?_eq_getElem (by omega)];intro h;exact hc (Option.some.inj h))])
    have f:(((p[k]'(by omega)).toNat:Int)==47)=false:=by
     rw[beq_eq_false_iff_ne];intro h;have h3:(p[k]'(by omega)).toNat=47:=by omega
     exact hc (UInt8.toNat_inj.1 (by rw[h3];rfl))
    go_wp2;go_roundw
    case rel=>exact⟨k,by omega,rfl,HE,trivial⟩
    case measure=>simp[intOf] <;> omega
theorem qp4(w:World):
 Calls Tryz.prog 21 #[] w fun e w'=>∃A,e= .returned (.slice A qa6.length 17)∧Rd w' A (strs qa6)∧Below w.heap.size w w':=by
 go_enter Tryz.func21,Tryz.ntmps21;go_wp2;go_loopw [2,1] (fun i l wr=>∃k:Nat,k≤12∧i= .int .i64 k∧l= .string (S (qf2 k))∧w=wr) (fun i _ _=>12 - (intOf i).toNat)
 case atStart=>exact⟨0,by omega,rfl,rfl,rfl⟩
 case round=>
  obtain⟨k,hk,rfl,rfl,rfl⟩:=hrel;have hl:=qvg k;by_cases hlt:k<12
  ·have HS:=q6q (show qf2 (k+1)=qf2 k++qy2 from rfl)
   go_wp2;go_roundw
   case rel=>exact⟨k+1,by omega,by go_num,by rw[HS.out];rfl,trivial⟩
   case measure=>simp[intOf];omega
  ·obtain rfl:k=12:=by omega
   obtain⟨L,hL⟩:∃L,qf2 12=L:=⟨_,rfl⟩;have HP:=q6q (show qa6=[[97],[97,47,98],[97,47,98,47,99],[97,47,100],[97,47,101],[97,45,98],[98],[100],[100,47,120],[100,47,120,47,121],[100,47,120,47,121,47,122],[100,47,122],L.take 50,L.take 50++47::L.take 55,L.take 50++47::(L.take 55++47::L.take 60),[119],[119,47,102]] by rw[←hL];simp[qa6]);rw[hL] at hl ⊢;clear hL;replace hl:L.length=120:=hl;have h50:(50:Int)≤(L.length:Int):=by omega
   have h55:(55:Int)≤(L.length:Int):=by omega
   have h60:(60:Int)≤(L.length:Int):=by omega
   go_upto_region 6 with fail;go_region
   go_wp2;go_ret;refine⟨_,rfl,?_,(qiu (Below.refl _ _)).alloc (Nat.le_refl _) _⟩;rw[HP.out];exact qy0 w.drew _ tStr
def qx2(a b c:Int)(d:List UInt8):Value:=.agg #[.int .i64 a,.int .i64 b,.int .i64 c,.string (S d)]
def qpf(t:Int×Int×Int×List UInt8):List Value:=[.int .i64 t.1,.int .i64 t.2.1,.int .i64 t.2.2.1,.string (S t.2.2.2)]
def qet:List (Int×Int×Int×List UInt8)→List Value
 |[]=>[]
 |t::r=>qpf t++qet r
theorem qjq(l:List (Int×Int×Int×List UInt8)):(qet l).length=l.length*4:=by
 induction l with
 |nil=>rfl
 |cons t r ih=>simp only[qet,qpf,List.length_append,List.length_cons,List.length_nil,ih];omega
theorem qjr(l:List (Int×Int×Int×List UInt8))(k:Nat)(h:k<l.length):(qet l)[k*4]? =some (.int .i64 l[k].1)∧(qet l)[k*4+1]? =some (.int .i64 l[k].2.1)∧(qet l)[k*4+2]? =some (.int .i64 l[k].2.2.1)∧(qet l)[k*4+3]? =some (.string (S l[k].2.2.2)):=by
 induction l generalizing k with
 |nil=>simp at h
 |cons t r ih=>
  cases k with
  |zero=>simp[qet,qpf]
  |succ k=>
   have h':k<r.length:=by simpa using h
   obtain⟨c0,c1,c2,c3⟩:=ih k h';have e:∀q,(qet (t::r))[(k+1)*4+q]? =(qet r)[k*4+q]?:=by
    intro q;rw[qet,List.getElem?_append_right (by simp[qpf];omega)];congr 1
    simp[qpf];omega
   have e0:=e 0;simp only[Nat.add_zero] at e0;exact⟨e0.trans c0,(e 1).trans c1,(e 2).trans c2,(e 3).trans c3⟩
def qhd(c n:Int):Int:=if c.tmod n<0 then c.tmod n+n else c.tmod n
theorem qhc(c n:Int)(w:World)(hn:0<n)(hn2:n≤1000)(h1: -9223372036854775808≤c)(h2:c≤9223372036854775807):
 Calls Tryz.prog 17 #[.int .i64 c,.int .i64 n] w fun e w'=>(∃r,e= .returned (.int .i64 r)∧0≤r∧r<n∧r=qhd c n)∧w=w':=by
 have f0:(n==0)=false:=by rw[beq_eq_false_iff_ne];omega
 have f1:¬n=0:=by omega
 have HZ:=q6q (show -n<c.tmod n∧c.tmod n<n from⟨Int.lt_tmod_of_pos c hn,Int.tmod_lt_of_pos c hn⟩);have hneg:n≠-1:=by omega
 by_cases hz:c.tmod n<0
 ·have hb: -1000≤c.tmod n:=by have:=HZ.out;omega
  have HF:=q6q (show c.tmod n+n=qhd c n by unfold qhd;rw[if_pos hz]);go_enter Tryz.func17,Tryz.ntmps17;go_wp2;go_ret;have:=HZ.out;exact⟨⟨_,rfl,by omega,by omega,HF.out⟩,rfl⟩
 ·have hb:0≤c.tmod n:=by omega
  have HF:=q6q (show c.tmod n=qhd c n by unfold qhd;rw[if_neg hz]);go_enter Tryz.func17,Tryz.ntmps17;go_wp2;go_ret;have:=HZ.out;exact⟨⟨_,rfl,by omega,by omega,HF.out⟩,rfl⟩
def entF(k1 k2:Int)(d p:List UInt8):Ent:=if qhd k1 4=0 then ⟨p,2,qhd k2 512,d.take 4096⟩ else if qhd k1 4=1 then ⟨p,3,0,[97,47,98]⟩ else ⟨p,1,qhd k2 512,[]⟩
def isUp(d:List UInt8)(e:Ent):Bool:=e.path==d&&e.kind==1
def qk8(l:List (Int×Int×Int×List UInt8))(i:Nat)(p:List UInt8):Nat→Bool→List Ent→List Ent
 |0,_,out=>out
 |_+1,false,out=>out
 |k+1,true,out=>match l[k]? with
  |none=>out
  |some t=>if qhd t.1 17=i then out++[entF t.2.1 t.2.2.1 t.2.2.2 p] else qk8 l i p k true out
def rawF(l:List (Int×Int×Int×List UInt8)):List (List UInt8)→Nat→List Ent→List Ent
 |[],_,out=>out
 |p::r,i,out=>rawF l r (i+1) (qk8 l i p l.length ((qij p p.length).isEmpty ||out.any (isUp (qij p p.length))) out)
theorem qg9(l:List (Int×Int×Int×List UInt8))(i:Nat)(p:List UInt8)(k:Nat)(out:List Ent):qk8 l i p k false out=out:=by
 cases k <;> rfl
theorem q3k(k0 k1 k2:Int)(d p:List UInt8)(w:World)(hd:d.length≤2000000000)(h1: -9223372036854775808≤k1∧k1≤9223372036854775807)(h2: -9223372036854775808≤k2∧k2≤9223372036854775807):
 Calls Tryz.prog 23 #[qx2 k0 k1 k2 d,.string (S p)] w fun e w'=>(∃c:Ent,e= .returned c.agg∧c.path=p∧qbh c=true∧c=entF k1 k2 d p)∧Below w.heap.size w w':=by
 have HP2:=q6q (fun W=>qhc k2 512 W (by omega) (by omega) h2.1 h2.2);have HP1:=q6q (fun W=>qhc k1 4 W (by omega) (by omega) h1.1 h1.2);clear h1 h2;unfold qx2;go_enter Tryz.func23,Tryz.ntmps23;go_wp2_with fail;refine(HP2.out _).mono ?_;rintro e w1 ⟨⟨m,rfl,m0,m1,hm⟩,rfl⟩;have Hm:=q6q hm;clear hm;go_wp2_with fail;refine(HP1.out _).mono ?_;rintro e w1 ⟨⟨k,rfl,k0,k1',hk⟩,rfl⟩;have Hk:=q6q hk;clear hk;have HM:=q6q (show qh6 m=true by unfold qh6;simp only[Bool.and_eq_true,decide_eq_true_eq];omega);by_cases e0:k=0
 ·subst e0
  by_cases hl:d.length≤4096
  ·have f:¬(4096:Int)<(d.length:Int):=by omega
   go_wp2;refine bodyPost_ret (show(results Tryz.f23 _).run Tryz.prog _= .ok (Ent.agg ⟨p,2,m,d⟩) _ from(by simp[results,Tryz.f23,go_sem,Ent.agg])) rfl ?_;refine⟨⟨_,rfl,rfl,by have:=HM.out;simp[qbh,this,hl],by unfold entF;rw[←Hk.out,←Hm.out,if_pos rfl,List.take_of_length_le hl]⟩,?_⟩;repeat (first|exact Below.refl _ _|refine Below.setCell ?_ (by simp <;> omega) _|refine Below.alloc ?_ (by simp <;> omega) _)
  ·have f:(4096:Int)<(d.length:Int):=by omega
   go_wp2;refine bodyPost_ret (show(results Tryz.f23 _).run Tryz.prog _= .ok (Ent.agg ⟨p,2,m,d.take 4096⟩) _ from(by simp[results,Tryz.f23,go_sem,Ent.agg])) rfl ?_;refine⟨⟨_,rfl,rfl,by have:=HM.out;simp[qbh,this];omega,by unfold entF;rw[←Hk.out,←Hm.out,if_pos rfl]⟩,?_⟩;repeat (first|exact Below.refl _ _|refine Below.setCell ?_ (by simp <;> omega) _|refine Below.alloc ?_ (by simp <;> omega) _)
 ·have f0:(k==0)=false:=by rw[beq_eq_false_iff_ne];exact e0
  by_cases e1:k=1
  ·subst e1
   go_wp2;refine bodyPost_ret (show(results Tryz.f23 _).run Tryz.prog _= .ok (Ent.agg ⟨p,3,0,[97,47,98]⟩) _ from(by simp[results,Tryz.f23,go_sem,Ent.agg])) rfl ?_;refine⟨⟨_,rfl,rfl,by simp[qbh,qdt,visC],by unfold entF;rw[←Hk.out,if_neg (by decide),if_pos rfl]⟩,?_⟩;repeat (first|exact Below.refl _ _|refine Below.setCell ?_ (by simp <;> omega) _|refine Below.alloc ?_ (by simp <;> omega) _)
  ·have f1:(k==1)=false:=by rw[beq_eq_false_iff_ne];exact e1
   go_wp2;refine bodyPost_ret (show(results Tryz.f23 _).run Tryz.prog _= .ok (Ent.agg ⟨p,1,m,[]⟩) _ from(by simp[results,Tryz.f23,go_sem,Ent.agg])) rfl ?_;refine⟨⟨_,rfl,rfl,by have:=HM.out;simp[qbh,this],by unfold entF;rw[←Hk.out,←Hm.out,if_neg e0,if_neg e1]⟩,?_⟩;repeat (first|exact Below.refl _ _|refine Below.setCell ?_ (by simp <;> omega) _|refine Below.alloc ?_ (by simp <;> omega) _)
theorem qvf(l:List (Int×Int×Int×List UInt8))(A:Option Addr)(cap:Nat)(w:World)(hr:Rd w A (qet l))(hl:l.length≤2000000000)(hs:∀t∈l,t.2.2.2.length≤2000000000)
 (hi:∀t∈l,(-9223372036854775808≤t.1∧t.1≤9223372036854775807)∧(-9223372036854775808≤t.2.1∧t.2.1≤9223372036854775807)∧(-9223372036854775808≤t.2.2.1∧t.2.2.1≤9223372036854775807)):
 Calls Tryz.prog 9 #[.slice A l.length cap] w fun e w'=>∃v,e= .returned v∧OwnE w' w.heap.size v (rawF l qa6 0 [])∧RawOk 17 (rawF l qa6 0 [])∧Below w.heap.size w w':=by
 obtain⟨i0,hi0,hz0,hz1,hz2⟩:=info_parts (show(Tryz.prog.info? 47).map (fun i=>(i.zero,i.size,i.bytes))=some (some entZ,4,48) by kernel_rfl);obtain⟨T,hT⟩:∃T,rawF l qa6 0 []=T:=⟨_,rfl⟩;rw[hT];have HT0:=q6q hT;clear hT;have HR:=q6q hr;have HS:=q6q hs;have HI:=q6q hi;clear hr hs hi;go_enter Tryz.func9,Tryz.ntmps9;go_wp2_with fail;refine(qp4 w).mono ?_;rintro e w1 ⟨A1,rfl,hrd,hb1⟩;have HP:=q6q hrd;have HB1:=q6q hb1;have hpl:qa6.length=17:=rfl;clear hrd hb1;have HPk:=q6q (fun (i:Nat) (h:i<qa6.length)=>qik h);have HSn:=q6q (fun (i:Nat) (out:List Ent) (h:RawOk i out) (hi:i<qa6.length) (c:Ent)=>h.snoc hi c)
 generalize qa6=ps at*;go_wp2;go_loopw [5,3] (fun vi vo wr=>∃(i:Nat) (out:List Ent),i≤17∧vi= .int .i64 i∧Hid (OwnE wr w1.heap.size vo out)∧Hid (RawOk i out)∧Hid (rawF l (ps.drop i) i out=T)∧Hid (Below w1.heap.size w1 wr)) (fun vi _ _=>17 - (intOf vi).toNat)
 case atStart=>exact⟨0,[],by omega,rfl,q6q (World.ownsRow_nil _ _ _ _),q6q ⟨Nat.le_refl _,fun j hj=>by simp at hj,fun e he=>by simp at he⟩,HT0,q6q (Below.refl _ _)⟩
 case round=>
  obtain⟨i,out,hi17,rfl,HO,HK,HTi,HB⟩:=hrel;obtain⟨av,cv,hve⟩:=qad HO.out;subst hve;have HBw:=q6q (HB1.out.trans (HB.out.mono HB1.out.size));have hol:=HK.out.len;by_cases hlt:i<17
  ·have hip:i<ps.length:=by omega
   obtain⟨bq,oq,hAq,hbq,hcq⟩:=HP.out.at i (by rw[qcx];exact hip);subst hAq;have hcq1:=hcq i _ (qc5 hip);obtain⟨p1,p2,p3,p4⟩:=HPk.out i hip;have HSn2:=q6q (fun (h:RawOk i out) (c:Ent)=>HSn.out i out h hip c);obtain⟨p,hpp⟩:∃p,ps[i]=p:=⟨_,rfl⟩;rw[hpp] at hcq1 p1 p2 p3 p4 HSn2;obtain⟨d,hd⟩:∃d,qij p p.length=d:=⟨_,rfl⟩;have HUp:=q6q (fun W=>qy1 p W (by omega));have hti:=HTi.out;rw[List.drop_eq_getElem_cons hip,rawF,hpp,hd] at hti;have HTi2:=q6q hti;clear hti;rw[hd] at HUp p4;have HUd:=q6q p4;have HG:=q6q (fun (wx:World) (hb:Below w1.heap.size w1 wx)=>(hb.cell (p:=⟨bq,oq+i,none⟩) hbq).trans hcq1)
   have g0:=HG.out wr HB.out;have hil:(i:Int)<(ps.length:Int):=by omega
   clear hpp hd p1 p2 p4 hcq hcq1 hpl;go_wp2_with fail;refine(HUp.out _).mono ?_;rintro e w2 ⟨rfl,rfl⟩;go_wp2;go_loopw [6,7] (fun vd vk wx=>∃(k:Nat) (D:Bool),k≤out.length∧vk= .int .i64 k∧vd= .bool D∧Hid (D=true→d=[]∨∃e∈out,e.path=d∧e.kind=1)∧Hid ((D ||(out.drop k).any (isUp d))=(d.isEmpty ||out.any (isUp d)))∧Hid (OwnE wx w1.heap.size (.slice av out.length cv) out)∧Hid (Below w1.heap.size w1 wx)) (fun _ vk _=>out.length - (intOf vk).toNat)
   case atStart=>
    exact⟨0,d.isEmpty,Nat.zero_le _,rfl,rfl,q6q (fun h=> .inl (by simpa using h)),q6q rfl,HO,HB⟩
   case round=>
    obtain⟨k,D,hk,rfl,rfl,HD,HDe,HO2,HB2⟩:=hrel;clear g0;by_cases hkl:k<out.length
    ·have hkI:(k:Int)<(out.length:Int):=by omega
     have g0:=HG.out _ HB2.out;have hde:=HDe.out;rw[List.drop_eq_getElem_cons hkl,List.any_cons] at hde;have HDe2:=q6q hde;clear hde;cases D with
     |true=>
      go_upto_region 10 with fail;go_quiet (fail);generalize hD:World.drewN wr _=wd;have HO3:=q6q (show OwnE wd w1.heap.size (.slice av out.length cv) out by rw[←hD];exact HO2.out);have HB3:=q6q (show Below w1.heap.size w1 wd by rw[←hD];exact qdp HB2.out _);clear hD HO2 HB2;go_wp2;go_roundw
      case rel=>exact⟨k+1,true,by omega,by go_num,rfl,HD,q6q (by have:=HDe.out;simpa using this),HO3,HB3⟩
      case measure=>simp[intOf];omega
     |false=>
      have hrdO:Rd wr av (ents out):=by
       obtain⟨A',c',hv,_,_,hrd⟩:=Rd.of_own HO2.out;cases hv;exact hrd
      obtain⟨be,oe,hAe,hbe,e0,e1,e2,e3⟩:=qgq hrdO (Below.refl _ _) k hkl;subst hAe;obtain⟨c,hcc⟩:∃c,out[k]=c:=⟨_,rfl⟩;have HMc:=q6q (show c∈out from hcc▸List.getElem_mem hkl);rw[hcc] at e0 e1 e2 e3 HDe2;clear hcc hrdO;by_cases hpd:c.path=d
      ·have f1:(c.path==d)=true:=by rw[beq_iff_eq];exact hpd
       by_cases hk1:c.kind=1
       ·have f2:(c.kind==1)=true:=by rw[beq_iff_eq];exact hk1
        have HD2:=q6q (show true=true→d=[]∨∃e∈out,e.path=d∧e.kind=1 from fun _=> .inr ⟨c,HMc.out,hpd,hk1⟩);have HDe3:=q6q (show(isUp d c)=true by unfold isUp;rw[hpd,hk1];simp);clear hpd hk1;go_upto_region 10 with fail;go_quiet (exact Calls.quiet_of_same (HUp.out _));generalize hD:World.drewN wr _=wd;have HO3:=q6q (show OwnE wd w1.heap.size (.slice (some ⟨be,oe,none⟩) out.length cv) out by rw[←hD];exact HO2.out);have HB3:=q6q (show Below w1.heap.size w1 wd by rw[←hD];exact qdp HB2.out _);clear hD HO2 HB2;go_wp2;go_roundw
        case rel=>exact⟨k+1,true,by omega,by go_num,rfl,HD2,q6q (by have:=HDe2.out;rw[HDe3.out] at this;simpa using this),HO3,HB3⟩
        case measure=>simp[intOf];omega
       ·have f2:(c.kind==1)=false:=by rw[beq_eq_false_iff_ne];exact hk1
        have HDe3:=q6q (show(isUp d c)=false by unfold isUp;rw[f2];simp);clear hpd hk1;go_upto_region 10 with fail;go_quiet (exact Calls.quiet_of_same (HUp.out _));generalize hD:World.drewN wr _=wd;have HO3:=q6q (show OwnE wd w1.heap.size (.slice (some ⟨be,oe,none⟩) out.length cv) out by rw[←hD];exact HO2.out);have HB3:=q6q (show Below w1.heap.size w1 wd by rw[←hD];exact qdp HB2.out _);clear hD HO2 HB2;go_wp2;go_roundw
        case rel=>exact⟨k+1,false,by omega,by go_num,rfl,HD,q6q (by have:=HDe2.out;rw[HDe3.out] at this;simpa using this),HO3,HB3⟩
        case measure=>simp[intOf];omega
      ·have f1:(c.path==d)=false:=by rw[beq_eq_false_iff_ne];exact hpd
       have HDe3:=q6q (show(isUp d c)=false by unfold isUp;rw[f1];simp);clear hpd;go_upto_region 10 with fail;go_quiet (exact Calls.quiet_of_same (HUp.out _));generalize hD:World.drewN wr _=wd;have HO3:=q6q (show OwnE wd w1.heap.size (.slice (some ⟨be,oe,none⟩) out.length cv) out by rw[←hD];exact HO2.out);have HB3:=q6q (show Below w1.heap.size w1 wd by rw[←hD];exact qdp HB2.out _);clear hD HO2 HB2;go_wp2;go_roundw
       case rel=>exact⟨k+1,false,by omega,by go_num,rfl,HD,q6q (by have:=HDe2.out;rw[HDe3.out] at this;simpa using this),HO3,HB3⟩
       case measure=>simp[intOf];omega
    ·obtain rfl:k=out.length:=by omega
     have hde:=HDe.out;rw[List.drop_length,List.any_nil,Bool.or_false] at hde;have HTj:=q6q (show rawF l (ps.drop (i+1)) (i+1) (qk8 l i p l.length D out)=T by rw[hde];exact HTi2.out);clear hde;have f:¬(out.length:Int)<(out.length:Int):=by omega
     go_wp2;go_loopw [8,3,6] (fun vk vo vd wx=>∃(k:Nat) (D2:Bool) (out2:List Ent),k≤l.length∧vk= .int .i64 ((k:Int) - 1)∧vd= .bool D2∧Hid (OwnE wx w1.heap.size vo out2)∧Hid (Below w1.heap.size w1 wx)∧Hid ((out2=out∧(D2=true→d=[]∨∃e∈out,e.path=d∧e.kind=1))∨(D2=false∧RawOk (i+1) out2))∧Hid (rawF l (ps.drop (i+1)) (i+1) (qk8 l i p k D2 out2)=T)) (fun vk _ _ _=>((intOf vk)+1).toNat)
     case atStart=>exact⟨l.length,D,out,Nat.le_refl _,rfl,rfl,HO2,HB2,q6q (.inl ⟨rfl,HD.out⟩),HTj⟩
     case round=>
      clear HO2 HB2 HD;obtain⟨k,D2,out2,hk,rfl,rfl,HO2,HB2,HC,HTk⟩:=hrel;obtain⟨av2,cv2,hve⟩:=qad HO2.out;subst hve;have HEnd:=q6q (show RawOk (i+1) out2 by
       rcases HC.out with⟨rfl,_⟩|⟨_,h⟩
       ·exact HK.out.step
       ·exact h)
      cases k with
      |zero=>
       have f:¬(0:Int)≤((0:Nat):Int) - 1:=by omega
       go_wp2;go_roundw
       case rel=>exact⟨i+1,out2,by omega,by go_num,HO2,HEnd,HTk,HB2⟩
       case measure=>simp[intOf];omega
      |succ k=>
       have e1:((k+1:Nat):Int) - 1=(k:Int):=by omega
       rw[e1];cases D2 with
       |false=>
        go_wp2;go_roundw
        case rel=>exact⟨i+1,out2,by omega,by go_num,HO2,HEnd,q6q (by have:=HTk.out;rw[qg9] at this;exact this),HB2⟩
        case measure=>simp[intOf];omega
       |true=>
        obtain⟨hoe,hPO⟩:out2=out∧(d=[]∨∃e∈out,e.path=d∧e.kind=1):=by
         rcases HC.out with⟨h1,h2⟩|⟨h1,_⟩
         ·exact⟨h1,h2 rfl⟩
         ·cases h1
        subst hoe;have HPO:=q6q hPO;clear hPO HC;have hkl:k<l.length:=by omega
        have hkI:(k:Int)<(l.length:Int):=by omega
        have hk0:(0:Int)≤(k:Int):=by omega
        have hwr:IntKind.i64.wrap ((k:Int) - 1)=(k:Int) - 1:=by rw[IntKind.wrap_i64] <;> omega
        have HBw2:=q6q (HB1.out.trans (HB2.out.mono HB1.out.size));obtain⟨bt,ot,hAt,hbt,hct⟩:=HR.out.at (k*4) (by rw[qjq];omega);subst hAt;obtain⟨y0,y1,y2,y3⟩:=qjr l k hkl;have t0:=(HBw2.out.cell (p:=⟨bt,ot+k*4,none⟩) hbt).trans (hct _ _ y0);have t1:=(HBw2.out.cell (p:=⟨bt,ot+(k*4+1),none⟩) hbt).trans (hct _ _ y1);have t2:=(HBw2.out.cell (p:=⟨bt,ot+(k*4+2),none⟩) hbt).trans (hct _ _ y2);have t3:=(HBw2.out.cell (p:=⟨bt,ot+(k*4+3),none⟩) hbt).trans (hct _ _ y3);replace t1:wr.cell? ⟨bt,ot+k*4+1,none⟩=some (.int .i64 l[k].2.1):=t1;replace t2:wr.cell? ⟨bt,ot+k*4+2,none⟩=some (.int .i64 l[k].2.2.1):=t2
        replace t3:wr.cell? ⟨bt,ot+k*4+3,none⟩=some (.string (S l[k].2.2.2)):=t3;obtain⟨⟨a1,a2⟩,b12,c12⟩:=HI.out l[k] (List.getElem_mem hkl);have hdl:=HS.out l[k] (List.getElem_mem hkl);obtain⟨⟨x0,x1,x2,x3⟩,ht⟩:∃t,l[k]=t:=⟨_,rfl⟩;have htk:=HTk.out;rw[qk8,List.getElem?_eq_getElem hkl,ht] at htk;have HTk2:=q6q (show rawF l (ps.drop (i+1)) (i+1) (if qhd x0 17=(i:Int) then out2++[entF x1 x2 x3 p] else qk8 l i p k true out2)=T from htk);clear htk;rw[ht] at t0 t1 t2 t3 a1 a2 b12 c12 hdl;simp only at t0 t1 t2 t3 a1 a2 b12 c12 hdl;have HPk2:=q6q (fun W=>qhc x0 17 W (by omega) (by omega) a1 a2)
        have HEn:=q6q (fun W=>q3k x0 x1 x2 x3 p W hdl b12 c12);have g0:=HG.out _ HB2.out;clear hct y0 y1 y2 y3 ht a1 a2 b12 c12 hdl;go_wp2_with fail;refine(HPk2.out _).mono ?_;rintro e w3 ⟨⟨r,rfl,r0,r1,hr⟩,rfl⟩;rw[←hr] at HTk2;clear hr;by_cases hri:r=(i:Int)
        ·have f3:(r==(i:Int))=true:=by rw[beq_iff_eq];exact hri
         have htk:=HTk2.out;rw[if_pos hri] at htk;have HTk3:=q6q htk;clear htk hri;unfold qx2 at HEn;go_upto_region 15 with fail;have hbt1:bt<wr.heap.size:=q6r wr _ t0;have hbq1:bq<wr.heap.size:=q6r wr _ g0;have hnt:¬bt=wr.heap.size:=by omega
         have hnq:¬bq=wr.heap.size:=by omega
         have HT:=q6q (fun (wx:World) (hb:Below wr.heap.size wr wx)=>(⟨(hb.cell (p:=⟨bt,ot+k*4,none⟩) hbt1).trans t0,(hb.cell (p:=⟨bt,ot+k*4+1,none⟩) hbt1).trans t1,(hb.cell (p:=⟨bt,ot+k*4+2,none⟩) hbt1).trans t2,(hb.cell (p:=⟨bt,ot+k*4+3,none⟩) hbt1).trans t3,(hb.cell (p:=⟨bq,oq+i,none⟩) hbq1).trans g0⟩:(fun w'=>w'.cell? ⟨bt,ot+k*4,none⟩=some (.int .i64 x0)∧w'.cell? ⟨bt,ot+k*4+1,none⟩=some (.int .i64 x1)∧w'.cell? ⟨bt,ot+k*4+2,none⟩=some (.int .i64 x2)∧w'.cell? ⟨bt,ot+k*4+3,none⟩=some (.string (S x3))∧w'.cell? ⟨bq,oq+i,none⟩=some (.string (S p))) wx))
         go_region_held3 (fun w'=>w'.cell? ⟨bt,ot+k*4,none⟩=some (.int .i64 x0)∧w'.cell? ⟨bt,ot+k*4+1,none⟩=some (.int .i64 x1)∧w'.cell? ⟨bt,ot+k*4+2,none⟩=some (.int .i64 x2)∧w'.cell? ⟨bt,ot+k*4+3,none⟩=some (.string (S x3))∧w'.cell? ⟨bq,oq+i,none⟩=some (.string (S p))) (first|go_keep|exact⟨(far4 hnt).trans r0',(far4 hnt).trans r1',(far4 hnt).trans r2',(far4 hnt).trans r3',(far4 hnq).trans r4'⟩) (first|(go_at_call 23;refine(HEn.out _).mono ?_;rintro e w4 ⟨⟨⟨cp,ck,cm,cd⟩,rfl,hcp,hcg,hce⟩,hb4⟩;have HTk4:=HTk3;rw[←hce] at HTk4;clear hce;simp only at hcp;subst hcp;have hbx:Below wr.heap.size wr w4:=(by first|exact(qiu (Below.refl _ _)).trans hb4|exact(Below.alloc (qiu (Below.refl _ _)) (Nat.le_refl _) _).trans (hb4.mono (by simp)));obtain⟨r0',r1',r2',r3',r4'⟩:=HT.out _ hbx;simp only[Ent.agg];have hbs:=hbx.size;have hbt4:bt<w4.heap.size:=(by omega);have hbq4:bq<w4.heap.size:=(by omega);have HBx:=q6q hbx;have HCg:=q6q hcg;have HB4':=q6q hb4;(first|(have hF:F4 w4 wr.heap.size (.string (S [])) (.int .i64 0) (.int .i64 0) (.string (S [])):=q57 (w:=wr.drew) hb4;obtain⟨⟨d0,d1,d2,d3⟩,⟨d4,d5,d6,d7⟩,d8⟩:=hF;have HBk:=q6q (q5o (w:=wr.drew) hb4))|skip)))
         ·have HBX:=q6q (HBx.out.alloc (by have:=HBx.out.size;omega) (.cells #[.string (S cp),.int .i64 ck,.int .i64 cm,.string (S cd)] 47))
          have HQ:=q6q (Cell4.new w4 ⟨cp,ck,cm,cd⟩ 47);generalize hX:w4.alloc (.cells #[.string (S cp),.int .i64 ck,.int .i64 cm,.string (S cd)] 47)=X at HBX HQ ⊢;clear hX;have HO5:=q6q (qac HO2.out HBX.out);have HB5:=q6q (HB2.out.trans (HBX.out.mono HB2.out.size));have HSnc:=q6q (HSn2.out HK.out ⟨cp,ck,cm,cd⟩ rfl HCg.out (by rw[←HUd.out];exact HPO.out));obtain⟨q0,q1,q2,q3⟩:=HQ.out;clear hnt hnq hbt1 hbq1 HBX HCg HB4' hbs hbt4 hbq4 t0 t1 t2 t3 g0 HO2 HB2 HBw2 HT HQ
          go_wp2_with (at_builtin;refine wpList_append_own _ rfl _ _ 30 rfl w1.heap.size 47 i0 entZ 4 48 Tryz.underlying30 hi0 hz0 hz1 hz2 rfl (by decide) _ _ _ rfl (HO5.out.alloc _) ⟨_,0,none⟩ 1 1 [.string (S cp),.int .i64 ck,.int .i64 cm,.string (S cd)] rfl rfl (qji _ _ _ _ _ _ _ (by simp)) (by simp[Value.oneCell']) (by unfold maxLen;omega) (by omega) (by simp;have:=HB5.out.size;omega) ?_;intro v' w5 hown5 hgr5 _;obtain⟨ao',c',rfl⟩:=qad hown5;have HB6:=q6q ((HB5.out.alloc HB5.out.size _).grown hgr5 (by have:=HB5.out.size;simp;omega) (fun kq hq=>((HO5.out.alloc (.cells #[.string (S cp),.int .i64 ck,.int .i64 cm,.string (S cd)] 47)).lt kq hq).1));have HO6:=q6q (qof hown5);clear hown5 hgr5)
          go_roundw
          case rel=>exact⟨k,false,out2++[⟨cp,ck,cm,cd⟩],by omega,rfl,rfl,by simpa using HO6,HB6,q6q (.inr ⟨rfl,HSnc.out⟩),q6q (by rw[qg9];exact HTk4.out)⟩
          case measure=>simp[intOf] <;> omega
         ·have HBX:Hid (Below wr.heap.size wr ((((w4.setCell ⟨wr.heap.size,0,none⟩ (.string (S cp))).setCell ⟨wr.heap.size,1,none⟩ (.int .i64 ck)).setCell ⟨wr.heap.size,2,none⟩ (.int .i64 cm)).setCell ⟨wr.heap.size,3,none⟩ (.string (S cd)))):=q6q ((((HBx.out.setCell (Nat.le_refl _) _).setCell (Nat.le_refl _) _).setCell (Nat.le_refl _) _).setCell (Nat.le_refl _) _)
          have HQ:Hid (Cell4 ((((w4.setCell ⟨wr.heap.size,0,none⟩ (.string (S cp))).setCell ⟨wr.heap.size,1,none⟩ (.int .i64 ck)).setCell ⟨wr.heap.size,2,none⟩ (.int .i64 cm)).setCell ⟨wr.heap.size,3,none⟩ (.string (S cd))) wr.heap.size ⟨cp,ck,cm,cd⟩):=q6q (set4 HBk.out ⟨cp,ck,cm,cd⟩);clear d0 d1 d2 d3 d4 d5 d6 d7 d8 HBk;generalize hX:((((w4.setCell ⟨wr.heap.size,0,none⟩ (.string (S cp))).setCell ⟨wr.heap.size,1,none⟩ (.int .i64 ck)).setCell ⟨wr.heap.size,2,none⟩ (.int .i64 cm)).setCell ⟨wr.heap.size,3,none⟩ (.string (S cd)))=X at HBX HQ ⊢;clear hX;have HO5:=q6q (qac HO2.out HBX.out);have HB5:=q6q (HB2.out.trans (HBX.out.mono HB2.out.size))
          have HSnc:=q6q (HSn2.out HK.out ⟨cp,ck,cm,cd⟩ rfl HCg.out (by rw[←HUd.out];exact HPO.out));obtain⟨q0,q1,q2,q3⟩:=HQ.out;clear hnt hnq hbt1 hbq1 HBX HCg HB4' hbs hbt4 hbq4 t0 t1 t2 t3 g0 HO2 HB2 HBw2 HT HQ
          go_wp2_with (at_builtin;refine wpList_append_own _ rfl _ _ 30 rfl w1.heap.size 47 i0 entZ 4 48 Tryz.underlying30 hi0 hz0 hz1 hz2 rfl (by decide) _ _ _ rfl (HO5.out.alloc _) ⟨_,0,none⟩ 1 1 [.string (S cp),.int .i64 ck,.int .i64 cm,.string (S cd)] rfl rfl (qji _ _ _ _ _ _ _ (by simp)) (by simp[Value.oneCell']) (by unfold maxLen;omega) (by omega) (by simp;have:=HB5.out.size;omega) ?_;intro v' w5 hown5 hgr5 _;obtain⟨ao',c',rfl⟩:=qad hown5;have HB6:=q6q ((HB5.out.alloc HB5.out.size _).grown hgr5 (by have:=HB5.out.size;simp;omega) (fun kq hq=>((HO5.out.alloc (.cells #[.string (S cp),.int .i64 ck,.int .i64 cm,.string (S cd)] 47)).lt kq hq).1));have HO6:=q6q (qof hown5);clear hown5 hgr5)
          go_roundw
          case rel=>exact⟨k,false,out2++[⟨cp,ck,cm,cd⟩],by omega,rfl,rfl,by simpa using HO6,HB6,q6q (.inr ⟨rfl,HSnc.out⟩),q6q (by rw[qg9];exact HTk4.out)⟩
          case measure=>simp[intOf] <;> omega
        ·have f3:(r==(i:Int))=false:=by rw[beq_eq_false_iff_ne];exact hri
         have htk:=HTk2.out;rw[if_neg hri] at htk;have HTk3:=q6q htk;clear htk hri;go_wp2;go_roundw
         case rel=>exact⟨k,true,out2,by omega,rfl,rfl,HO2,HB2,q6q (.inl ⟨rfl,fun _=>HPO.out⟩),HTk3⟩
         case measure=>simp[intOf] <;> omega
  ·obtain rfl:i=17:=by omega
   have f:¬((17:Nat):Int)<(ps.length:Int):=by omega
   go_wp2;go_ret;have ht:=HTi.out;rw[show ps.drop 17=[] from List.drop_of_length_le (by omega),rawF] at ht;subst ht;exact⟨_,rfl,qak HO.out HB1.out.size,HK.out,HBw.out⟩
theorem q4b(c n:Int)(w:World)(hn:0<n)(hn2:n≤1000)(h1: -9223372036854775808≤c)(h2:c≤9223372036854775807):
 Calls Tryz.prog 17 #[.int .i64 c,.int .i64 n] w fun e w'=>e= .returned (.int .i64 (qhd c n))∧w'=w:=
 (qhc c n w hn hn2 h1 h2).mono fun e w' ⟨⟨r,h,_,_,hr⟩,hw⟩=>⟨by rw[h,hr],hw.symm⟩
theorem qts(c n:Int)(hn:0<n):0≤qhd c n∧qhd c n<n:=by
 have h1:=Int.lt_tmod_of_pos c hn;have h2:=Int.tmod_lt_of_pos c hn;unfold qhd;split <;> omega
theorem q13(s:List UInt8)(w:World)(hs:s.length≤2000000000):
 Calls Tryz.prog 29 #[.string (S s)] w fun e w'=>(∃t,e= .returned (.string (S t))∧t.length≤30)∧w=w':=by
 go_enter Tryz.func29,Tryz.ntmps29;go_wp2;go_loopw [3,4] (fun vt vi wr=>∃(k:Nat) (t:List UInt8),k≤s.length∧k≤20∧vt= .string (S t)∧t.length=k+1∧vi= .int .i64 k∧w=wr) (fun _ vi _=>20 - (intOf vi).toNat)
 case atStart=>exact⟨0,[118],by omega,by omega,rfl,rfl,rfl,rfl⟩
 case round=>
  obtain⟨k,t,hk,hk2,rfl,ht,rfl,rfl⟩:=hrel;by_cases hks:k<s.length
  ·have hki:(k:Int)<(s.length:Int):=by omega
   by_cases hkl:k<20
   ·have hkj:(k:Int)<20:=by omega
    obtain⟨n,hn⟩:∃n,(s[k]'hks).toNat=n:=⟨_,rfl⟩;have hn2:n<256:=hn▸(s[k]'hks).toNat_lt;have hr:=Int.tmod_lt_of_pos (n:Int) (show(0:Int)<36 by decide);have hr0:0≤(n:Int).tmod 36:=Int.tmod_nonneg _ (by omega);go_upto_region 6 with fail;generalize (n:Int).tmod 36=r at*;obtain⟨q,rfl⟩:∃q:Nat,r=q:=⟨r.toNat,by omega⟩;have hq:q<36:=by omega
    clear hr hr0 hn;go_wp2;go_roundw
    case rel=>exact⟨k+1,_,by omega,by omega,rfl,by simp;omega,by go_num,trivial⟩
    case measure=>simp[intOf];omega
   ·obtain rfl:k=20:=by omega
    go_wp2;go_ret;exact⟨⟨t,rfl,by omega⟩,rfl⟩
  ·obtain rfl:k=s.length:=by omega
   have f:¬(s.length:Int)<(s.length:Int):=by omega
   go_wp2;go_ret;exact⟨⟨t,rfl,by omega⟩,rfl⟩
theorem q2s(k0 k1 k2:Int)(d:List UInt8)(n:Nat)(w:World)(hn:n≤3)(hd:d.length≤2000000000)(h0: -9223372036854775808≤k0∧k0≤9223372036854775807)(h1: -9223372036854775808≤k1∧k1≤9223372036854775807)(h2: -9223372036854775808≤k2∧k2≤9223372036854775807):
 Calls Tryz.prog 16 #[.agg #[.int .i64 k0,.int .i64 k1,.int .i64 k2,.string (S d)],.int .i64 n] w fun e w'=>(∃t,e= .returned (.string (S t))∧t.length≤1000)∧Below w.heap.size w w':=by
 have HP0:=q6q (fun W=>qhc k0 9 W (by omega) (by omega) h0.1 h0.2);have HP1:=q6q (fun W=>qhc k1 17 W (by omega) (by omega) h1.1 h1.2);have HP2:=q6q (fun W=>qhc k2 17 W (by omega) (by omega) h2.1 h2.2);have HP3:=q6q (fun W=>qhc k1 3 W (by omega) (by omega) h1.1 h1.2);have HPn:=q6q (fun W (hp:0<n)=>q4b k2 n W (by omega) (by omega) h2.1 h2.2);have HSf:=q6q (fun W=>q13 d W hd);clear h0 h1 h2 hd;have hb0:Below w.heap.size w (w.alloc (.cells #[.int .i64 k0,.int .i64 k1,.int .i64 k2,.string (S d)] 54)):=(Below.refl _ _).alloc (Nat.le_refl _) _;have k1':=Go.heap_alloc_new w (.cells #[.int .i64 k0,.int .i64 k1,.int .i64 k2,.string (S d)] 54)
 go_enter Tryz.func16,Tryz.ntmps16;go_upto_region 1 with fail;generalize w.alloc (.cells #[.int .i64 k0,.int .i64 k1,.int .i64 k2,.string (S d)] 54)=w1 at hb0 k1' ⊢;have HB0:=q6q hb0;have HK0:=q6q k1';clear hb0 k1';go_wp2_with fail;refine(qp4 _).mono ?_;rintro e w2 ⟨A,rfl,hrd,hb2⟩;have HR:=q6q hrd;have HB2:=q6q (HB0.out.trans (hb2.mono HB0.out.size));have hk:=(hb2.block _ (q6s HK0.out).1).trans HK0.out;have c0:w2.cell? ⟨w.heap.size,0,none⟩=some (.int .i64 k0):=by rw[cell_of_row _ _ _ _ _ _ hk];rfl
 have c1:w2.cell? ⟨w.heap.size,1,none⟩=some (.int .i64 k1):=by rw[cell_of_row _ _ _ _ _ _ hk];rfl
 have c2:w2.cell? ⟨w.heap.size,2,none⟩=some (.int .i64 k2):=by rw[cell_of_row _ _ _ _ _ _ hk];rfl
 have c3:w2.cell? ⟨w.heap.size,3,none⟩=some (.string (S d)):=by rw[cell_of_row _ _ _ _ _ _ hk];rfl
 have hgz:=HB2.out.size;generalize hg0:w.heap.size=g0 at*;have HG0:=q6q hg0;clear hg0;have hpl:qa6.length=17:=rfl;have HPa:=q6q (fun (i:Nat) (h:i<17)=>(qik (i:=i) (by rw[hpl];exact h)).2.2.1);have HLn:=q6q hpl;generalize qa6=ps at*;clear hrd hb2 hk HK0 HB0;go_wp2_with fail;refine(HP1.out _).mono ?_;rintro e w3 ⟨⟨r1,rfl,r10,r11,hr1⟩,rfl⟩;clear hr1;obtain⟨q1,rfl⟩:∃q:Nat,r1=q:=⟨r1.toNat,by omega⟩;obtain⟨b,o,rfl,hbl,hc⟩:=HR.out.at q1 (by rw[qcx];omega);have g1:=hc q1 _ (qc5 (show q1<ps.length by omega));have hl1:=HPa.out q1 (by omega);generalize ps[q1]'(by omega)=pa at g1 hl1;have HC:=q6q hc;clear hc;go_wp2_with fail
 refine(HP2.out _).mono ?_;rintro e w3 ⟨⟨r2,rfl,r20,r21,hr2⟩,rfl⟩;clear hr2;obtain⟨q2,rfl⟩:∃q:Nat,r2=q:=⟨r2.toNat,by omega⟩;have g2:=HC.out q2 _ (qc5 (show q2<ps.length by omega));have hl2:=HPa.out q2 (by omega);generalize ps[q2]'(by omega)=pb at g2 hl2;go_upto_region 5 with fail;go_cut [33] (fun v wx=>∃B:Bool,v= .bool B∧(B=true→0<n)∧wx=w2)
 case first=>
  by_cases hn0:0<n
  ·have hni:(0:Int)<(n:Int):=by omega
   go_wp2_with fail;refine(HP3.out _).mono ?_;rintro e w3 ⟨⟨r3,rfl,r30,r31,hr3⟩,rfl⟩;clear hr3;go_wp2;go_meet
   exact⟨_,rfl,fun _=>hn0,rfl⟩
  ·obtain rfl:n=0:=by omega
   go_wp2;go_meet
   exact⟨false,rfl,by simp⟩
 case rest=>
 obtain⟨B,rfl,hB,hw⟩:=hcut;replace hw:=hw.symm;subst hw;rename_i hKo K2 hK;refine hK _ _ ?_;go_cut [8] (fun v wx=>∃f,v= .string (S f)∧f.length≤20∧Hid (Below w2.heap.size w2 wx))
 case first=>
  cases B with
  |true=>
   have hn0:0<n:=hB rfl;have hni:(0:Int)<(n:Int):=by omega
   have HPq:=q6q (fun W=>HPn.out W hn0);obtain⟨p0,p1⟩:=qts k2 n hni;generalize qhd k2 n=rq at*;obtain⟨qn,rfl⟩:∃q:Nat,rq=q:=⟨rq.toNat,by omega⟩;have hq3:(qn:Int)<3:=by omega
   clear p0 p1 hn0;go_upto_region 6 with fail;go_quiet (exact Calls.quiet_of_same (HPq.out _));generalize hD:World.drewN w2 _=wd;have HB3:=q6q (show Below w2.heap.size w2 wd by rw[←hD];exact qdp (Below.refl _ _) _);clear hD;go_wp2;go_meet
   exact⟨_,rfl,by simp;omega,HB3⟩
  |false=>
   go_wp2;go_meet
   exact⟨[],rfl,by simp,q6q (Below.refl _ _)⟩
 case rest=>
 obtain⟨f,rfl,hf,HB3⟩:=hcut;have c0':=(HB3.out.cell (p:=⟨g0,0,none⟩) (q6r _ _ c0)).trans c0;have c3':=(HB3.out.cell (p:=⟨g0,3,none⟩) (q6r _ _ c3)).trans c3;have HB4:=q6q (HB2.out.trans (HB3.out.mono hgz));clear c0 c1 c2 c3 g1 g2 HB2 HB3;go_wp2_with fail;refine(HP0.out _).mono ?_;rintro e w4 ⟨⟨r0,rfl,r00,r01,hr0⟩,rfl⟩;clear hr0;have hr:r0=0∨r0=1∨r0=2∨r0=3∨r0=4∨r0=5∨r0=6∨r0=7∨r0=8:=by omega
 rcases hr with rfl|rfl|rfl|rfl|rfl|rfl|rfl|rfl|rfl
 case inr.inr.inr.inr.inr.inr.inl=>
  go_wp2_with fail;refine(HSf.out _).mono ?_;rintro e w5 ⟨⟨t5,rfl,ht5⟩,rfl⟩;go_wp2;go_ret;exact⟨⟨_,rfl,by simp;omega⟩,by rw[HG0.out];exact HB4.out⟩
 all_goals
  go_wp2;go_ret;exact⟨⟨_,rfl,by simp <;> omega⟩,by rw[HG0.out];exact HB4.out⟩
theorem qr3(l:List (Int×Int×Int×List UInt8))(A:Option Addr)(cap:Nat)(w:World)(hr:Rd w A (qet l))(hl:l.length≤2000000000)(hs:∀t∈l,t.2.2.2.length≤2000000000)
 (hi:∀t∈l,(-9223372036854775808≤t.1∧t.1≤9223372036854775807)∧(-9223372036854775808≤t.2.1∧t.2.1≤9223372036854775807)∧(-9223372036854775808≤t.2.2.1∧t.2.2.1≤9223372036854775807)):
 Calls Tryz.prog 6 #[.slice A l.length cap] w fun e w'=>(∃t,e= .returned (.string (S t))∧t.length≤100000)∧Below w.heap.size w w':=by
 have HR:=q6q hr;have HS:=q6q hs;have HI:=q6q hi;clear hr hs hi;go_enter Tryz.func6,Tryz.ntmps6;go_wp2;rw[show Value.string {data:=#[]}=Value.string (S []) from rfl];go_loopw [3,4,5] (fun vs vn vi wr=>∃(i n:Nat) (s:List UInt8),i≤l.length∧i≤16∧n≤3∧vs= .string (S s)∧s.length≤29+1040*i∧vn= .int .i64 n∧vi= .int .i64 i∧Hid (Below w.heap.size w wr)) (fun _ _ vi _=>16 - (intOf vi).toNat)
 case atStart=>exact⟨0,0,_,by omega,by omega,by omega,rfl,by simp,rfl,rfl,q6q (Below.refl _ _)⟩
 case round=>
  obtain⟨i,n,s,hil,hi16,hn3,rfl,hsl,rfl,rfl,HB⟩:=hrel;by_cases hlt:i<l.length
  ·have hli:(i:Int)<(l.length:Int):=by omega
   by_cases hlt2:i<16
   ·have hl2:(i:Int)<16:=by omega
    obtain⟨bt,ot,hAt,hbt,hct⟩:=HR.out.at (i*4) (by rw[qjq];omega);subst hAt;obtain⟨y0,y1,y2,y3⟩:=qjr l i hlt;have t0:=(HB.out.cell (p:=⟨bt,ot+i*4,none⟩) hbt).trans (hct _ _ y0);have t1:wr.cell? ⟨bt,ot+i*4+1,none⟩=some (.int .i64 l[i].2.1):=(HB.out.cell (p:=⟨bt,ot+(i*4+1),none⟩) hbt).trans (hct _ _ y1);have t2:wr.cell? ⟨bt,ot+i*4+2,none⟩=some (.int .i64 l[i].2.2.1):=(HB.out.cell (p:=⟨bt,ot+(i*4+2),none⟩) hbt).trans (hct _ _ y2);have t3:wr.cell? ⟨bt,ot+i*4+3,none⟩=some (.string (S l[i].2.2.2)):=(HB.out.cell (p:=⟨bt,ot+(i*4+3),none⟩) hbt).trans (hct _ _ y3)
    obtain⟨a12,b12,c12⟩:=HI.out l[i] (List.getElem_mem hlt);have hdl:=HS.out l[i] (List.getElem_mem hlt);obtain⟨⟨x0,x1,x2,x3⟩,ht⟩:∃t,l[i]=t:=⟨_,rfl⟩;rw[ht] at t0 t1 t2 t3 a12 b12 c12 hdl;simp only at t0 t1 t2 t3 a12 b12 c12 hdl;have HLn:=q6q (fun W=>q2s x0 x1 x2 x3 n W hn3 hdl a12 b12 c12);have HPq:=q6q (fun W=>q4b x1 ((n:Int)+1) W (by omega) (by omega) b12.1 b12.2);obtain⟨p0,p1⟩:=qts x1 ((n:Int)+1) (by omega);generalize qhd x1 ((n:Int)+1)=rq at*;obtain⟨qn,rfl⟩:∃q:Nat,rq=q:=⟨rq.toNat,by omega⟩;clear hct y0 y1 y2 y3 ht a12 b12 c12 hdl p0;go_wp2_with fail;refine(HLn.out _).mono ?_;rintro e w2 ⟨⟨t,rfl,htl⟩,hb2⟩
    have HB2:=q6q (HB.out.trans (hb2.mono HB.out.size));have u1:=(hb2.cell (p:=⟨bt,ot+i*4+1,none⟩) (q6r _ _ t1)).trans t1;clear hb2 t0 t1 t2 t3 HLn;by_cases h5:(i:Int) %6=5
    ·by_cases h3:n<3
     ·have h3i:(n:Int)<3:=by omega
      go_upto_region 10 with fail;go_quiet (exact Calls.quiet_of_same (HPq.out _));generalize hD:World.drewN w2 _=wd;have HB3:=q6q (show Below w.heap.size w wd by rw[←hD];exact qdp HB2.out _);clear hD;go_wp2;go_roundw
      case rel=>exact⟨i+1,n+1,_,by omega,by omega,by omega,rfl,by simp;omega,by go_num,by go_num,HB3⟩
      case measure=>simp[intOf];omega
     ·obtain rfl:n=3:=by omega
      go_wp2;go_roundw
      case rel=>exact⟨i+1,3,_,by omega,by omega,by omega,rfl,by simp;omega,rfl,by go_num,HB2⟩
      case measure=>simp[intOf];omega
    ·go_wp2
     go_roundw
     case rel=>exact⟨i+1,n,_,by omega,by omega,by omega,rfl,by simp;omega,rfl,by go_num,HB2⟩
     case measure=>simp[intOf];omega
   ·obtain rfl:i=16:=by omega
    go_wp2;go_ret;exact⟨⟨s,rfl,by omega⟩,HB.out⟩
  ·obtain rfl:i=l.length:=by omega
   have f:¬(l.length:Int)<(l.length:Int):=by omega
   go_wp2;go_ret;exact⟨⟨s,rfl,by omega⟩,HB.out⟩
theorem qx0{k:Nat}(hk:k≤l.length)(h:∀j,j<k→qcw l j=false):IsTree (qav (l.take k)):=by
 induction k with
 |zero=>exact qly
 |succ k ih=>
  have hlt:k<l.length:=hk;have hT:=ih (by omega) (fun j hj=>h j (by omega));have hw:=h k (by omega);rw[qco (List.getElem?_eq_getElem hlt)] at hw;simp only[Bool.or_eq_false_iff,Bool.not_eq_false'] at hw;obtain⟨⟨⟨⟨⟨_,h2⟩,h3⟩,h4⟩,h5⟩,h6⟩:=hw;have hne:l[k].path≠[]:=fun e=>by rw[e] at h2;cases h2
  rw[qid l k hlt];have hp:=(qf3 h3 hne).1;rw[hp];exact qpz hT _ _ _ h6
theorem RawOk.first{out:List Ent}(h:RawOk 17 out):First (qcw out) out.length (-1)∧IsTree (qav out):=by
 have hp:∀j,j<out.length→qcw out j=false:=by
  intro j;induction j using Nat.strongRecOn with
  |ind j ih=>intro hj;rw[qmo hj (fun q hq=>ih q hq (by omega))];exact h.right j hj
 refine⟨.inr ⟨rfl,hp⟩,?_⟩;have:=qx0 (k:=out.length) (Nat.le_refl _) hp;rwa [List.take_length] at this
theorem qt4{c:Ent}(h:qbh c=true):c.data.length≤4096:=by
 unfold qbh at h;split at h
 ·simp only[Bool.and_eq_true,List.isEmpty_iff] at h;rw[h.2];simp
 ·split at h
  ·simp only[Bool.and_eq_true,decide_eq_true_eq] at h;exact h.2
  ·split at h
   ·simp only[qdt,Bool.and_eq_true,decide_eq_true_eq] at h;omega
   ·cases h
theorem qsn{F:qag}(h:Lists l F):∀e∈l,e.path.length≤2000000000∧e.data.length≤2000000000:=by
 intro e he;obtain⟨h1,_,h3⟩:=h.each e he;have:=(qbb h1).1;have:=qt4 h3;omega
end Go.Proofs.YtikdblkfjchjbaaGreatDoor
