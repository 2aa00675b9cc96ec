import Derived.Test.YtikdblkfjchjbaaGreatDoorY45
set_option linter.unusedVariables false
set_option linter.unusedSimpArgs false
set_option maxHeartbeats 16000000
set_option maxRecDepth 100000
namespace Go.Proofs.YtikdblkfjchjbaaGreatDoor
open Go.RowKit
variable{w:World}{i n j:Nat}
theorem q2d{B g c:Nat}{e:TypeId}{xs:List Value}(h:w.ownsRow B e 1 (.slice (some ⟨g,0,none⟩) n c) n xs)(f:Nat→Value)(hf:∀j,j<n→xs[j]? =some (f j)):PRow w g n f:=by
 have hc:=h.cells (g:=g) rfl;rcases h.2 with⟨e1,_⟩|⟨g',cap,cur,e1,hg,hh,r⟩
 ·simp at e1
 ·simp only[Value.slice.injEq,Option.some.injEq,Addr.mk.injEq] at e1
  obtain⟨⟨rfl,-,-⟩,-,-⟩:=e1;refine⟨cur,_,hh,fun j hj=>?_⟩;have:=hc j _ (hf j hj);have ha:(⟨g,0,none⟩:Addr).add j=⟨g,j,none⟩:=by unfold Addr.add;split <;> simp_all
  rw[ha,cell_of_row _ _ _ _ _ _ hh] at this;exact this
theorem PRow.congr{mr:Nat}{f f':Nat→Value}(h:PRow w mr n f)(e:∀j,j<n→f j=f' j):PRow w mr n f':=by
 obtain⟨cs,T,h1,h2⟩:=h;exact⟨cs,T,h1,fun j hj=>by rw[h2 j hj,e j hj]⟩
theorem qmh{L:List Nat}(hp:L.Pairwise (· < ·))(hi:i<L.length)(hj:j∈L)(hlt:j<L[i]):j∈L.take i:=by
 obtain⟨q,hq,rfl⟩:=List.getElem_of_mem hj;have hqi:q<i:=by
  refine Nat.lt_of_not_le fun h=>?_
  rcases Nat.lt_or_eq_of_le h with h|h
  ·have:=List.pairwise_iff_getElem.1 hp i q hi hq h;omega
  ·subst h;omega
 exact List.mem_take_iff_getElem.2 ⟨q,by omega,rfl⟩
theorem qzk(st:List StageG):(qc1 st).Pairwise (· < ·):=by
 unfold qc1;exact List.Pairwise.filter _ List.pairwise_lt_range
theorem qkl{st:List StageG}:i∈qc1 st↔Reach st i:=by
 unfold qc1;simp only[List.mem_filter,List.mem_range,decide_eq_true_eq];exact⟨fun h=>h.2,fun h=>⟨h.lt,h⟩⟩
theorem qzj{st:List StageG}(hi:i<(qc1 st).length)(hk:(qc1 st)[i]<st.length)(hj:j<(qc1 st)[i])(hw:qdj st[(qc1 st)[i]] j=true):j∈(qc1 st).take i:=
 qmh (qzk st) hi (qkl.2 (.step hk (qkl.1 (List.getElem_mem hi)) hj hw)) hj
theorem q4v{A:Option Addr}{cs:List Value}{m:Nat}(h:Rd w A cs)(hm:∀b o,A=some ⟨b,o,none⟩→m≠b)(k:Nat)(v:Value):Rd (w.setCell ⟨m,k,none⟩ v) A cs:=by
 rcases h with rfl|⟨b,o,rfl,hc⟩
 ·exact .inl rfl
 ·refine .inr ⟨b,o,rfl,fun i u hu=>?_⟩
  exact(World.cell?_of_block (heap_setCell_other w ⟨m,k,none⟩ b v (by have:=hm b o rfl;simp only;omega))).trans (hc i u hu)
def qo3(w w':World)(e:Ending):Except (Int×Nat) StX→Prop
 |.error (k,a)=>∃n,e= .returned (.tuple #[.agg #[.slice none 0 0,.string (S []),.slice none 0 0],.iface qc3 (.pointer (some ⟨n,0,none⟩))])∧w'.cell? ⟨n,0,none⟩=some (.int .i64 k)∧w'.cell? ⟨n,1,none⟩=some (.int .i64 a)∧w.heap.size≤n
 |.ok (l,f,wk)=>∃(v:Value) (A:Option Addr) (c:Nat) (ks:List (List UInt8)),e= .returned (.tuple #[.agg #[.slice A ks.length c,.string (S (47::wk)),v],.nilIface])∧w'.ownsRow w.heap.size tStr 1 (.slice A ks.length c) ks.length (strs (srtO (ks.map (envS f))))∧ks.Nodup∧(∀k,k∈ks↔(f k).isSome=true)∧OwnE w' w.heap.size v l
theorem qzy(st:List StageG)(m gp cc k0 B:Nat)(ao:Option Addr)(w:World)(hm:st.length=m+1)(hp:w.heap[gp]? =some (Obj.cells #[.slice ao (m+1) cc,.int .i64 k0] 105 (0,0)))(hst:FStagesR B w st ao cc)(hok:FileOk st)(hfk:FileK st)(htx:(qb4 st).length≤1500)(hS:Std w)(hE:NumE w)(hT:Tz w)(hord:Ord w)
 (c:List Ent)(tc:Nat)(hC:CtxT w c tc)(hc1:c.length≤1000)(hcd:∀e∈c,e.data.length≤100000):
 Calls Tryz.prog 34 #[.pointer (some ⟨gp,0,none⟩),.pointer (some ⟨tc,0,none⟩)] w fun e w'=>qo3 w w' e (qim c st)∧Below w.heap.size w w':=by
 obtain⟨i0,hi0,hz0,hz1,hz2⟩:=info_parts (show(Tryz.prog.info? 143).map (fun i=>(i.zero,i.size,i.bytes))=some (some (.pointer none),1,8) by kernel_rfl);have hm5:m≤4:=by have:=hok.h5;omega
 obtain⟨R,hR⟩:∃R,qim c st=R:=⟨_,rfl⟩;obtain⟨RM,hRM⟩:∃RM,qcu c st (qc1 st) (fun _=>none)=RM:=⟨_,rfl⟩;have HRe:=q6q (show ∀k a,RM= .error (k,a)→R= .error (k,a) from fun k a h=>by rw[←hR];unfold qim;rw[hRM,h]);have HRo:=q6q (show ∀M,RM= .ok M→R= .ok ((M m).getD noX) from fun M h=>by rw[←hR];unfold qim;rw[hRM,h,hm];rfl);rw[hR];have HNl:=q6q (show ∀k∈qc1 st,k<m+1 from fun k hk=>by rw[←hm];exact(qkl.1 hk).lt);have HNm:=q6q (show m∈qc1 st from qkl.2 (by have:=Reach.last hok.ne;rw[hm] at this;exact this));have hLl:(qc1 st).length≤5:=by
  have:(qc1 st).length≤(List.range st.length).length:=by unfold qc1;exact List.length_filter_le _ _
  rw[List.length_range] at this;have:=hok.h5;omega
 have HNt:=q6q (show ∀L,qc1 st=L→∀i j (hi:i<L.length) (hk:L[i]<st.length),j<L[i]→qdj st[L[i]] j=true→j∈L.take i from by rintro _ rfl i j hi hk hj hw;exact qzj hi hk hj hw);have HRM:=q6q hRM;obtain⟨L,hL⟩:∃L,qc1 st=L:=⟨_,rfl⟩;have HST:=q6q hst;have HM:=q6q hm;have HOK:=q6q hok;have HFK:=q6q hfk;have HTX:=q6q htx;have HP:=q6q hp;have HS:=q6q hS;have HNe:=q6q hE;have HTz:=q6q hT;have HORD:=q6q hord;have HC:=q6q hC;have HCd:=q6q hcd;have hb1:Below w.heap.size w (w.alloc (.cells #[.slice none 0 0,.string (S []),.slice none 0 0] 32)):=(Below.refl _ _).alloc (Nat.le_refl _) _
 have k1:=Go.heap_alloc_new w (.cells #[.slice none 0 0,.string (S []),.slice none 0 0] 32);clear hst hm hok hp hS hord hC hR hRM hE hT hcd hfk htx;go_enter Tryz.func34,Tryz.ntmps34;go_upto_region 1 with fail;have HB1:=q6q hb1;generalize w.alloc (.cells #[.slice none 0 0,.string (S []),.slice none 0 0] 32)=w1 at hb1 HB1 k1 ⊢;obtain⟨c1,c2,c3,c4⟩:=(show Blk2 w1 gp (.slice ao (m+1) cc) (.int .i64 k0) from⟨_,(hb1.block gp (q6s HP.out).1).trans HP.out⟩).facts
 go_wp2_with (at_make;refine wpList_make_full _ rfl _ _ 140 rfl w1.heap.size 143 i0 (.pointer none) 1 Tryz.underlying140 hi0 hz0 hz1 .i64 .i64 _ _ (m+1) rfl rfl (by simp) (by simp) (by rw[hz2];omega) (by unfold maxLen;omega) (Nat.le_refl _) ?_;intro w2 hown2 hgr2)
 have hb2:Below w1.heap.size w1 w2:=(Below.refl _ _).grown hgr2 (Nat.le_refl _) (fun k hk=>by cases hk);have HO2:=q6q (q2d hown2 (fun _=> .pointer none) (fun j hj=>by rw[show(Value.pointer none).cells=#[Value.pointer none] from rfl,toList_madeCells_one];simp[hj]));have HB2:=q6q (HB1.out.trans (hb2.mono HB1.out.size));have HPw:=q6q (fun (wx:World) (hb:Below w.heap.size w wx)=>qzi st m gp cc k0 B ao wx HM.out ((hb.block gp (q6s HP.out).1).trans HP.out) (HST.out.after hb) HOK.out);rw[hL] at HPw HNl HNm hLl HRM;replace HNt:=q6q (HNt.out L hL);have HK2:=q6q ((hb2.block _ (q6s k1).1).trans k1);have hmw1:w.heap.size<w1.heap.size:=(q6s k1).1
 clear hown2 hgr2 c1 c2 c3 c4 hL k1;refine(HPw.out w2 HB2.out).mono ?_;rintro e w3 ⟨⟨no,nc,rfl,hown3⟩,hb3⟩;obtain⟨A3,q3,hA3,_,_,hrd3⟩:=Rd.of_own hown3;cases hA3;have HRd:=q6q hrd3;have HNb:=q6q (show ∀b o,no=some ⟨b,o,none⟩→w1.heap.size<b from by
  intro b o e;have hl:=HO2.out.lt;rcases hown3.2 with⟨e1,_⟩|⟨g',cap,cur,e1,hg,_⟩
  ·rw[e] at e1;simp at e1
  ·rw[e] at e1
   simp only[Value.slice.injEq,Option.some.injEq,Addr.mk.injEq] at e1;omega)
 have HB3:=q6q (HB2.out.trans (hb3.mono HB2.out.size));have HO3:=q6q (HO2.out.after hb3);have HK3:=q6q ((hb3.block _ (q6s HK2.out).1).trans HK2.out);clear hown3 hb3 hrd3 HO2 HPw hb1 hb2 HK2 HB2 HB1;generalize hmr:w1.heap.size=mr at HO3 hmw1 HNb ⊢;have hm0:(0:Int)≤(m:Int):=by omega
 clear hmr;go_wp2;go_loopw [26] (fun vi wr=>∃(i:Nat) (M:Nat→Option StX) (G:Nat→Nat),i≤L.length∧vi= .int .i64 i∧Hid (qcu c st (L.drop i) M=RM)∧Hid (∀j s,M j=some s→FinX w wr mr i s (G j))∧Hid (∀j∈L.take i,(M j).isSome=true)∧Hid (PRow wr mr (m+1) (ptrX M G))∧Hid (Below w.heap.size w wr)∧Hid (wr.heap[w.heap.size]? =some (.cells #[.slice none 0 0,.string (S []),.slice none 0 0] 32 (0,0)))∧Hid (Rd wr no (ints L))) (fun vi _=>L.length - (intOf vi).toNat)
 case atStart=>exact⟨0,fun _=>none,fun _=>0,Nat.zero_le _,rfl,HRM,q6q (fun j s h=>by cases h),q6q (fun j h=>by cases h),HO3,HB3,HK3,HRd⟩
 case round=>
  obtain⟨i,M,G,hi,rfl,HSt,HFin,HDone,HRow,HBr,HKi,HRi⟩:=hrel;by_cases hlt:i<L.length
  ·have hk1:=HNl.out _ (List.getElem_mem hlt)
   have HDr:=q6q (show L.drop i=L[i]::L.drop (i+1) from List.drop_eq_getElem_cons hlt);have HNi:=q6q (show ∀k,L[i]=k→∀j (h:k<st.length),j<k→qdj st[k] j=true→j∈L.take i from by rintro _ rfl j h1 h2 h3;exact HNt.out i j hlt h1 h2 h3);have HTk:=q6q (show L.take (i+1)=L.take i++[L[i]] from List.take_succ_eq_append_getElem hlt);obtain⟨bn,on,hbn,hbn2,hcn⟩:=HRi.out.at i (by unfold ints;rw[List.length_map];exact hlt);subst hbn;have cn:wr.cell? ⟨bn,on+i,none⟩=some (.int .i64 L[i]):=hcn i _ (by unfold ints;rw[List.getElem?_map,List.getElem?_eq_getElem hlt];rfl);obtain⟨k,hk⟩:∃k,L[i]=k:=⟨_,rfl⟩;rw[hk] at hk1 HDr HTk cn
   replace HNi:=q6q (HNi.out k hk);have hil:(i:Int)<(L.length:Int):=by omega
   clear hk hcn;have hks:k<st.length:=by rw[HM.out];exact hk1
   obtain⟨x,hx⟩:∃x,st[k]=x:=⟨_,rfl⟩;have HXm:=q6q (show x∈st from hx▸List.getElem_mem hks);have HXk:=q6q (show st[k]? =some x by rw[List.getElem?_eq_getElem hks,hx]);have hwf:=HOK.out.wf k hks;rw[hx] at hwf;have HWf:=q6q hwf;have HNj:=q6q (fun j (hj:j<k) (hw:qdj x j=true)=>HNi.out j hks hj (by rw[hx];exact hw));have hsl:x.steps.length≤24:=(HOK.out.bd x HXm.out).2;obtain⟨b,o,sa,sc,va,vc,hao,hbl,e0,e1,e2,e3,⟨scs,so1,so2⟩,e5⟩:=HST.out.get hks;subst hao;rw[hx] at e1 e2 so1 so2;have HSo:=q6q so1;have HSc:=q6q so2;have HE1:=q6q e1;have HE2:=q6q e2;have HSt2:=HSt.out;rw[HDr.out,qcu,HXk.out] at HSt2;simp only at HSt2
   replace HSt2:=q6q HSt2;clear hx hwf so1 so2 e0 e1 e2 e3 e5 HSt HNi HDr;go_wp2_with fail;refine(q12 wr).mono ?_;rintro _ w4 ⟨t0,g0,mb0,rfl,hst⟩;have HM4:=q6q hst;clear hst cn;have HB4:=q6q (HBr.out.trans (HM4.out.below.mono HBr.out.size));have e1:=(HB4.out.cell (p:=⟨b,o+k*4+1,none⟩) hbl).trans HE1.out;obtain⟨p1,p2,p3,p4⟩:=(show Blk2 w4 gp (.slice (some ⟨b,o,none⟩) (m+1) cc) (.int .i64 k0) from⟨_,(HB4.out.block gp (q6s HP.out).1).trans HP.out⟩).facts;have hki:(k:Int)<(m:Int)+1:=by omega
   go_upto_region 6 with fail;go_cut [10] (fun v wx=>v= .int .i64 x.base∧wx=w4)
   case first=>
    go_wp2;go_meet
    exact⟨rfl,rfl⟩
   case rest=>
   obtain⟨rfl,hw⟩:=hcut;replace hw:=hw.symm;subst hw;rename_i hKo K2 hK;refine hK _ _ ?_;clear e1 p1 p2 p3 p4;go_cut [9] (fun v wx=>∃(t g mb n0 N0:Nat) (wS:World),v= .pointer (some ⟨g,0,none⟩)∧n0≤100000*i∧N0≤100*i∧Hid (StM wS wx n0 (begX M x.base).1 t g mb (EnvO N0 (begX M x.base).2.1) (fun k=>k<wS.heap.size∨k=mb) (begX M x.base).2.2)∧Hid (Below wr.heap.size wr wS)∧Hid (SmX (begX M x.base)))
   case first=>
    by_cases hb0:0≤x.base
    ·obtain⟨bq,hbq⟩:∃bq:Nat,x.base=bq:=⟨x.base.toNat,by omega⟩
     have hbk:bq<k:=by have:=HWf.out.1;omega
     have hdn:=HDone.out bq (HNj.out bq hbk (by unfold qdj;rw[hbq];simp));obtain⟨sq,hsq⟩:=Option.isSome_iff_exists.1 hdn;have HBg:=q6q (show begX M x.base=sq by unfold begX;rw[if_pos hb0,hbq];simp only[Int.toNat_natCast,hsq];rfl);obtain⟨wS,n,t,mb,N,D,h1,h2,h3,h4,h5,h6⟩:=HFin.out bq _ hsq;have HMq:=q6q (h5.after HM4.out.below);have HSq:=q6q h6;have HBq:=q6q h4;have hrq:=(HRow.out.after HM4.out.below).cell (j:=bq) (by omega);rw[show ptrX M G bq= .pointer (some ⟨G bq,0,none⟩) by unfold ptrX;rw[hsq]] at hrq;obtain⟨cq,fq⟩:=hrq;generalize G bq=gq at*;have HCp:=q6q (qs5 HMq.out (HS.out.below HBq.out) (by omega) (by omega));rw[hbq]
     have hbi:(bq:Int)<(m:Int)+1:=by omega
     have hge:decide ((bq:Int)≥0)=true:=decide_eq_true (by omega);have HB0:=q6q HM4.out.below;have HBb:=q6q hbq;clear hdn hsq h5 h6 h4 hbq hb0 HMq;go_wp2_with fail;refine HCp.out.mono ?_;rintro _ w5 ⟨t2,g2,mb2,rfl,hst2⟩;have HM5:=q6q hst2;clear hst2;go_wp2;rw[←HBb.out];go_meet
     exact⟨t2,g2,mb2,n,N,w4,rfl,h1,h2,by rw[HBg.out];exact HM5,HB0,by rw[HBg.out];exact HSq⟩
    ·have HBg:=q6q (show begX M x.base=noX by unfold begX;rw[if_neg hb0])
     have hge:decide (x.base≥0)=false:=decide_eq_false hb0;have hge2:¬x.base≥0:=hb0;have HB0:=q6q (Below.refl wr.heap.size wr);clear hb0;go_wp2;go_meet
     exact⟨t0,g0,mb0,0,0,wr,rfl,by omega,by omega,by rw[HBg.out];exact HM4,HB0,by rw[HBg.out];exact q6q qzh⟩
   case rest=>
   obtain⟨t,g,mb,n0,N0,wS,rfl,hn0,hN0,HM5,HBS,HSm⟩:=hcut;have hbc:=HBS.out.trans (HM5.out.below.mono HBS.out.size);have hbw:=HBr.out.trans (hbc.mono HBr.out.size);have e2:=(hbw.cell (p:=⟨b,o+k*4+2,none⟩) hbl).trans HE2.out;obtain⟨p1,p2,p3,p4⟩:=(show Blk2 wc gp (.slice (some ⟨b,o,none⟩) (m+1) cc) (.int .i64 k0) from⟨_,(hbw.block gp (q6s HP.out).1).trans HP.out⟩).facts;obtain⟨s0,hs0⟩:∃s0,begX M x.base=s0:=⟨_,rfl⟩;rw[hs0] at HM5 HSm HSt2;have HFinS:=q6q (fun j s h=>(HFin.out j s h).after HBS.out);have HRowS:=q6q (HRow.out.after HBS.out);have HKS:=q6q ((HBS.out.block _ (q6s HKi.out).1).trans HKi.out)
   have HRS:=q6q (HRi.out.below HBS.out);have hbnm:=HNb.out _ _ rfl;have HBrS:=q6q (HBr.out.trans (HBS.out.mono HBr.out.size));have HStdS:=q6q (HS.out.below HBrS.out);have HNeS:=q6q (HNe.out.below HBrS.out);have HTzS:=q6q (HTz.out.below HBrS.out);have HCS:=q6q (HC.out.below HBrS.out);have hmS:mr<wS.heap.size:=HRowS.out.lt;clear HFin HRow HKi HRi HBr HBS hbc hbw hs0 HE1 HE2 HM4 HB4 HRd HO3 HB3 HK3;go_upto_region 9 with fail;go_wp2;clear e2 p1 p2 p3 p4;obtain⟨Rr,hRr⟩:∃Rr,runX c M x.steps s0=Rr:=⟨_,rfl⟩;rw[hRr] at HSt2;have HRr:=q6q hRr;clear hRr
   go_loopw [55] (fun vq wy=>∃(q:Nat) (s:StX),q≤x.steps.length∧vq= .int .i64 q∧Hid (runX c M (x.steps.drop q) s=Rr)∧Hid (StM wS wy (n0+2000*q) s.1 t g mb (EnvO (N0+q) s.2.1) (fun k=>k<wS.heap.size∨k=mb) s.2.2)∧Hid (SmX s)) (fun vq _=>x.steps.length - (intOf vq).toNat)
   case atStart=>exact⟨0,s0,Nat.zero_le _,rfl,HRr,HM5,HSm⟩
   case round=>
    obtain⟨q,s,hq,rfl,HMR,HSM,HSq⟩:=hrel;by_cases hqt:q<x.steps.length
    ·have hBw:=HBrS.out.trans (HSM.out.below.mono HBrS.out.size)
     obtain⟨A1,c1,g0',g1,g2,g3,g4⟩:=HSc.out.get q hqt;obtain⟨b3,o3,hsa,hb3,hc3⟩:=(RdT.of_own HSo.out).rd.at (q*4) (by rw[HSc.out.len];omega);subst hsa;have HYm:=q6q (show x.steps[q]∈x.steps from List.getElem_mem hqt);have y0:=(hBw.cell (p:=⟨b3,o3+q*4,none⟩) hb3).trans (hc3 _ _ g0');have y1:=(hBw.cell (p:=⟨b3,o3+q*4+1,none⟩) hb3).trans (hc3 _ _ g1);have y2:=(hBw.cell (p:=⟨b3,o3+q*4+2,none⟩) hb3).trans (hc3 _ _ g2);have y3:=(hBw.cell (p:=⟨b3,o3+q*4+3,none⟩) hb3).trans (hc3 _ _ g3);have HDr:=q6q (show List.drop q x.steps=x.steps[q]::List.drop (q+1) x.steps from List.drop_eq_getElem_cons hqt)
     obtain⟨y,hy⟩:∃y,x.steps[q]=y:=⟨_,rfl⟩;rw[hy] at y0 y1 y2 y3 g4 HYm HDr;obtain⟨f1,f2,f3,f4⟩:=(HFK.out x HXm.out y HYm.out).formW s.2.1;have hws:=fun (z:WordG) (hz:z∈y.words)=>qup HSq.out.2 z (n:=1500) (Nat.le_trans (q5e HXm.out HYm.out hz) HTX.out)
     have HFw:=q6q f1;have HWb:=q6q (show ∀z∈qcp s.2.1 y.words,z.length≤200000 from fun z hz=>by
      unfold qcp at hz;obtain⟨u,hu,rfl⟩:=List.mem_map.1 hz;have:=(hws u hu).1;omega)
     have hql:(q:Int)<(x.steps.length:Int):=by omega
     have HEx:=q6q (fun (wx:World) (hb:Below w.heap.size w wx) (hv:EnvIs wx mb (N0+q) s.2.1)=>qop s.2.1 (N0+q) mb y A1 c1 wx (g4.after hb) (HORD.out.after hb) f2 f3 hv f4 (fun z hz=>by
      obtain⟨a1,a2,a3⟩:=hws z hz;exact⟨by omega,by omega,fun p hp=>by have:=a3 p hp;omega⟩))
     have HMR2:=HMR.out;rw[HDr.out,runX] at HMR2;replace HMR2:=q6q HMR2;obtain⟨tj,HCj,hcl,HCl,HPj⟩:∃tj,Hid (CtxT wS (srcX c M y.stage) tj)∧(srcX c M y.stage).length≤1000∧Hid (∀e∈srcX c M y.stage,e.data.length≤100000)∧Hid ((y.stage<0∧tj=tc)∨∃jq gj:Nat,y.stage=jq∧jq<m+1∧wS.cell? ⟨mr,jq,none⟩=some (.pointer (some ⟨gj,0,none⟩))∧wS.cell? ⟨gj,0,none⟩=some (.pointer (some ⟨tj,0,none⟩))):=by
      by_cases hst:0≤y.stage
      ·obtain⟨jq,hjq⟩:∃jq:Nat,y.stage=jq:=⟨y.stage.toNat,by omega⟩
       have hjk:jq<k:=by have:=HWf.out.2 y HYm.out;omega
       have hdn:=HDone.out jq (HNj.out jq hjk (by unfold qdj;rw[Bool.or_eq_true];left;exact List.any_eq_true.2 ⟨y,HYm.out,by rw[hjq];simp⟩));obtain⟨sj,hsj⟩:=Option.isSome_iff_exists.1 hdn;have he:srcX c M y.stage=sj.1:=by unfold srcX;rw[if_pos hst,hjq];simp only[Int.toNat_natCast,hsj];rfl
       obtain⟨wT,n,tj,mbj,N,Dj,h1,h2,h3,h4,h5,h6⟩:=HFinS.out jq _ hsj;have hc:=(HRowS.out.cell (j:=jq) (by omega)).1;rw[show ptrX M G jq= .pointer (some ⟨G jq,0,none⟩) by unfold ptrX;rw[hsj]] at hc;rw[he];exact⟨tj,q6q (h5.ctx (by omega)),by have:=h6.1;omega,q6q h5.lst.data,q6q (.inr ⟨jq,G jq,hjq,by omega,hc,h5.cells.1⟩)⟩
      ·have he:srcX c M y.stage=c:=by unfold srcX;rw[if_neg hst]
       rw[he];exact⟨tc,HCS,hc1,HCd,q6q (.inl ⟨by omega,rfl⟩)⟩
     generalize hsc:srcX c M y.stage=cs at HCj hcl HCl HMR2;obtain⟨n1,hn1⟩:∃n1,y.words.length=n1:=⟨_,rfl⟩;rw[hn1] at y1 HEx;obtain⟨z0,z1,z2⟩:=HSM.out.cells;have HBw:=q6q hBw;have hgl:=(q6s HSM.out.blk).1;clear hBw g0' g1 g2 g3 g4 hc3 f1 f2 f3 f4 hws hn1 hy hsc HYm;go_upto_region 12 with fail;have ks:=Go.heap_alloc_new wr (.cells #[.int .i64 (qde y.op),.slice A1 n1 c1,.int .i64 y.stage,.int .i64 y.at_] qai);have hb5:Below wr.heap.size wr (wr.alloc (.cells #[.int .i64 (qde y.op),.slice A1 n1 c1,.int .i64 y.stage,.int .i64 y.at_] qai)):=(Below.refl _ _).alloc (Nat.le_refl _) _
     obtain⟨w5,hw5⟩:∃w5,wr.alloc (.cells #[.int .i64 (qde y.op),.slice A1 n1 c1,.int .i64 y.stage,.int .i64 y.at_] qai)=w5:=⟨_,rfl⟩;rw[hw5] at ks hb5 ⊢;have HB5:=q6q (HBw.out.trans (hb5.mono HBw.out.size));have HSM5:=q6q (HSM.out.after hb5);have HBS5:=q6q HSM5.out.below;obtain⟨bs,hbs⟩:∃bs,wr.heap.size=bs:=⟨_,rfl⟩;rw[hbs] at ks hb5 hgl ⊢;have hbs5:=(q6s ks).1;obtain⟨s0',s1,s2,s3,t0',t1,t2,t3⟩:=(show Blk4 w5 bs (.int .i64 (qde y.op)) (.slice A1 n1 c1) (.int .i64 y.stage) (.int .i64 y.at_) from⟨_,ks⟩).facts;have HKs:=q6q ks;have Hb5:=q6q hb5;have Hbs:=q6q hbs;clear hw5 ks hb5 hbs y0 y1 y2 y3 z0 z1 z2;go_upto_region 13 with fail
     go_cut [62] (fun v wx=>v= .bool (decide (y.stage≥0))∧wx=w5)
     case first=>
      go_wp2;go_meet
      exact⟨rfl,rfl⟩
     case rest=>
     obtain⟨rfl,hw⟩:=hcut;replace hw:=hw.symm;subst hw;rename_i hKp K3 hK3;refine hK3 _ _ ?_;go_cut [13] (fun v wx=>v= .pointer (some ⟨tj,0,none⟩)∧wx=w5)
     case first=>
      rcases HPj.out with⟨hneg,htj⟩|⟨jq,gj,hjq,hjm,hc,hg⟩
      ·subst htj
       have hge:decide (y.stage≥0)=false:=decide_eq_false (by omega);rw[hge];clear hge hneg;go_wp2;go_meet
       exact⟨rfl,rfl⟩
      ·have hge:decide (y.stage≥0)=true:=decide_eq_true (by omega)
       rw[hge];have hc5:=(HBS5.out.cell (p:=⟨mr,jq,none⟩) (q6r _ _ hc)).trans hc;have hg5:=(HBS5.out.cell (p:=⟨gj,0,none⟩) (q6r _ _ hg)).trans hg;rw[hjq] at s2;have hji:(jq:Int)<(m:Int)+1:=by omega
       clear hge hc hg hjq hjm;go_wp2;go_meet
       exact⟨rfl,rfl⟩
     case rest=>
     obtain⟨rfl,hw⟩:=hcut;replace hw:=hw.symm;subst hw;obtain⟨z0,z1,z2⟩:=HSM5.out.cells;have HB5d:=q6q (qbi HB5.out);have HEv:=q6q (HEx.out w5.drew HB5d.out HSM5.out.drew.envIs);have t1q:=fun (wx:World) (hb:Below w5.drew.heap.size w5.drew wx)=>(qbi (Below.refl w5.heap.size w5)).trans hb
     go_upto_region 15 with fail;go_cut [14,15] (fun v1 v2 wx=>∃(A2:Option Addr) (cap2:Nat) (ln:List UInt8),v1= .slice A2 (qcp s.2.1 y.words).length cap2∧v2= .string (S ln)∧Hid (Rd wx A2 (strs (qcp s.2.1 y.words)))∧Hid (Below w5.heap.size w5 wx))
     case first=>
      go_region_with (go_at_call 58;refine HEv.out.mono ?_;rintro e6 w6 ⟨v,ln,rfl,hown,hb6⟩;obtain⟨A2,cap2,hv2,_,_,hrd⟩:=Rd.of_own hown;subst hv2;have HR6:=q6q hrd;have HB6:=q6q (t1q w6 hb6);clear hown hrd hb6)
      all_goals
       go_wp2;go_meet
       exact⟨A2,cap2,ln,rfl,rfl,HR6,HB6⟩
     case rest=>
     obtain⟨A2,cap2,ln,rfl,rfl,HRd6,HB6⟩:=hcut;clear s0' s1 s2 s3 t0' t1 t2 t3;have hb6:=HB6.out;have hb56:Below wr.heap.size wr wc:=by rw[Hbs.out];exact Hb5.out.trans (hb6.mono (by omega))
     have HM6:=q6q (HSM.out.guard (D':=fun k=>(k<wS.heap.size∨k=mb)∨k=bs) hb56 (fun k hk=>hk.elim .inl fun e=> .inr ⟨by rw[Hbs.out];omega,by have:=hb6.size;omega⟩) (.inl (.inr rfl)));have HKs6:=q6q ((hb6.block bs hbs5).trans HKs.out);obtain⟨s0',s1,s2,s3,t0',t1,t2,t3⟩:=(show Blk4 wc bs (.int .i64 (qde y.op)) (.slice A1 n1 c1) (.int .i64 y.stage) (.int .i64 y.at_) from⟨_,HKs6.out⟩).facts;have hbg:bs≠g:=by omega
     have hbm:bs≠mb:=by have:=HSM.out.dlt mb (.inr rfl);rw[Hbs.out] at this;omega
     clear hb6 hb56 HSM5 z0 z1 z2 HKs HB5 Hb5 HB5d t1q HB6 HEx HEv HBS5;have HDo:=q6q (q6a HM6.out HStdS.out HNeS.out HTzS.out (by omega) (by omega) (qde y.op) (qcp s.2.1 y.words) HFw.out HWb.out A2 cap2 HRd6.out (.slice A1 n1 c1) y.stage y.at_ cs tj HCj.out hcl HCl.out);have HSz:Hid (∀s':StX,qiz cs (qde y.op) (qcp s.2.1 y.words) s.1 s.2.1 s.2.2= .ok s'→SmX s'):=q6q (fun s' h=>qu5 HFw.out h HSq.out.1 HSq.out.2);have HEr:Hid (∀k':Int,qiz cs (qde y.op) (qcp s.2.1 y.words) s.1 s.2.1 s.2.2= .error k'→k'≠0):=q6q (fun k' h=>q1q HFw.out h);have hmr2:=HMR2.out;generalize hstep:qiz cs (qde y.op) (qcp s.2.1 y.words) s.1 s.2.1 s.2.2=rs at HDo hmr2
     rw[hstep] at HSz HEr;clear hstep HMR2;rcases rs with k2|⟨l2,f2,wk2⟩
     ·have hk0:=HEr.out k2 rfl
      have HRr2:=q6q (show Rr= .error (k2,y.at_) from hmr2.symm);have HRM2:=q6q (show R= .error (k2,y.at_) from HRe.out _ _ (by have h:=HSt2.out;rw[HRr2.out] at h;exact h.symm));have hk1':(k2 != 0)=true:=by simpa using hk0
      have hk2':(k2==0)=false:=by simpa using hk0
      clear hk0 hmr2 HRe HRr2 HSz HEr HMR HSt2;go_wp2_with fail;refine HDo.out.mono ?_;rintro e w7 ⟨rfl,hb7,hd7⟩;have hk7:=(hd7.2 bs ⟨.inr rfl,hbg,hbm⟩).trans HKs6.out;have hwz:=(q6s HKS.out).1;have hi7:=(hb7.block _ hwz).trans HKS.out;have HB7:=q6q (HBrS.out.trans (hb7.mono HBrS.out.size));have HK7:=q6q hi7;clear s0' s1 s2 s3 t0' t1 t2 t3;obtain⟨s0,s1,s2,s3,t0,t1,t2,t3⟩:=(show Blk4 w7 bs (.int .i64 (qde y.op)) (.slice A1 n1 c1) (.int .i64 y.stage) (.int .i64 y.at_) from⟨_,hk7⟩).facts;obtain⟨j0,j1,j2,q0,q1,q2⟩:=qbj hi7;have hgz:w.heap.size<w7.heap.size:=(q6s hi7).1;clear hb7 hd7 hk7 hi7 HM6 HKs6 HRd6 HSM HDo hwz
      clear HRo HRM HNm HNl HFK HTX HS HNe HTz HCd HNt HDone HNb HTk HXk HWf HNj HST HP HRr HSm HM5 HKS hi0 hz0 hz1 hz2 HDr HBw Hbs hbl hb3 hql hil hki hsl hq hqt hi hk1 hLl hm5 hm0 hc1 hcl hn0 hN0 hgl hbs5 hbg hbm hbnm;generalize hg0:w.heap.size=g0 at j0 j1 j2 q0 q1 q2 HK7 hgz ⊢;clear HC HCS HBrS HStdS HORD HOK HXm HM HSo HSc HCj HCl HPj HFw HWb HFinS HRowS HNeS HTzS HRS HSq;have y0':w7.cell? ⟨bs,3,none⟩=some (.int .i64 y.at_):=s3;have ne1:bs≠g0:=by intro e;rw[e] at s0;rw[j0] at s0;cases s0
      have ne2:g0≠bs:=Ne.symm ne1;go_upto_region 18 with fail;go_region
      rename_i K9 h9;refine h9 _ _ ?_;refine wp_ret ?_;change bodyPost Tryz.prog Tryz.f34 (fun e w'=>qo3 w w' e R∧Below w.heap.size w w') Exit.ret _ _
      have h0:=heap_setCell_same w7 g0 0 _ _ (.slice none 0 0) HK7.out;have h1:=heap_setCell_same _ g0 1 _ _ (.string (S [])) h0;have h2:=heap_setCell_same _ g0 2 _ _ (.slice none 0 0) h1;have hbe:=((HB7.out.setCell (p:=⟨g0,0,none⟩) (by show w.heap.size≤g0;omega) (.slice none 0 0)).setCell (p:=⟨g0,1,none⟩) (by show w.heap.size≤g0;omega) (.string (S []))).setCell (p:=⟨g0,2,none⟩) (by show w.heap.size≤g0;omega) (.slice none 0 0);have hz3:(((w7.setCell ⟨g0,0,none⟩ (.slice none 0 0)).setCell ⟨g0,1,none⟩ (.string (S []))).setCell ⟨g0,2,none⟩ (.slice none 0 0)).heap.size=w7.heap.size:=by simp
      generalize ((w7.setCell ⟨g0,0,none⟩ (.slice none 0 0)).setCell ⟨g0,1,none⟩ (.string (S []))).setCell ⟨g0,2,none⟩ (.slice none 0 0)=W3 at h2 hbe hz3 ⊢;have h3:(W3.alloc (.cells #[.int .i64 k2,.int .i64 y.at_] tAt)).drew.heap[g0]? =_:=(Below.heap_alloc W3 _ g0 (by omega)).trans h2;have h4:=Go.heap_alloc_new W3 (.cells #[.int .i64 k2,.int .i64 y.at_] tAt);rw[hz3] at h4;have h5:(W3.alloc (.cells #[.int .i64 k2,.int .i64 y.at_] tAt)).drew.heap[w7.heap.size]? =some (.cells #[.int .i64 k2,.int .i64 y.at_] tAt (0,0)):=h4;obtain⟨v0,v1,v2,_,_,_⟩:=qbj h3;have hbf:=qbi (hbe.alloc hbe.size (.cells #[.int .i64 k2,.int .i64 y.at_] tAt))
      refine bodyPost_ret (by simp[results,Tryz.results34,go_sem,v0,v1,v2,Result.andThen];try rfl) rfl ?_;rw[HRM2.out];exact⟨⟨w7.heap.size,rfl,by rw[cell_of_row _ _ _ _ _ _ h5];rfl,by rw[cell_of_row _ _ _ _ _ _ h5];rfl,by omega⟩,hbf⟩
     ·have HRest:=q6q (show runX c M (List.drop (q+1) x.steps) (l2,f2,wk2)=Rr from hmr2)
      have HS2:=q6q (HSz.out (l2,f2,wk2) rfl);clear hmr2 HSz HEr;go_wp2_with fail;refine HDo.out.mono ?_;rintro e w7 ⟨rfl,hm7,hd7⟩;have HM7:=q6q ((hm7.guard (D':=fun k=>k<wS.heap.size∨k=mb) (Below.refl _ _) (fun k hk=> .inl (.inl hk)) (.inr rfl)).mono (show n0+2000*q+2000≤n0+2000*(q+1) by omega));clear hm7 hd7 HM6 HKs6 HRd6 HSM HDo s0' s1 s2 s3 t0' t1 t2 t3;go_wp2;go_roundw
      case rel=>exact⟨q+1,(l2,f2,wk2),by omega,by go_num,HRest,HM7,HS2⟩
      case measure=>simp[intOf];omega
    ·obtain rfl:q=x.steps.length:=by omega
     have HB0:=q6q HSM.out.below;have hRr:Rr= .ok s:=by
      have:=HMR.out;rw[List.drop_length] at this;exact this.symm
     have HSt3:=q6q (show qcu c st (L.drop (i+1)) (fun j=>if j=k then some s else M j)=RM by have h:=HSt2.out;rw[hRr] at h;exact h);have HF3:=q6q (show FinX w wr mr (i+1) s g from⟨wS,_,t,mb,_,_,by omega,by omega,hmS,HBrS.out,HSM.out,HSq.out⟩);obtain⟨cm,fm⟩:=(HRowS.out.after HB0.out).cell (j:=k) hk1;have hkm:(k:Int)<(m:Int)+1:=by omega
     clear hRr HMR HSt2 HSM;go_wp2;go_roundw
     case rel=>
      refine⟨i+1,fun j=>if j=k then some s else M j,fun j=>if j=k then g else G j,by omega,by go_num,HSt3,q6q ?_,q6q ?_,q6q ?_,q6q ?_,q6q ?_,q6q ?_⟩
      ·intro j s' hj
       by_cases e:j=k
       ·simp only[e,if_true,Option.some.injEq] at hj ⊢
        subst hj;exact HF3.out.poke (by omega) k _
       ·simp only[e,if_false] at hj ⊢
        exact(((HFinS.out j s' hj).after HB0.out).poke (by omega) k _).mono (by omega)
      ·intro j hj
       rw[HTk.out,List.mem_append] at hj;by_cases e:j=k
       ·simp[e]
       ·simp only[e,if_false]
        rcases hj with hj|hj
        ·exact HDone.out j hj
        ·exact absurd (List.mem_singleton.1 hj) e
      ·refine((HRowS.out.after HB0.out).set k (.pointer (some ⟨g,0,none⟩))).congr fun j hj=>?_
       unfold ptrX;by_cases e:j=k <;> simp[e]
      ·exact(HBrS.out.trans (HB0.out.mono HBrS.out.size)).setCell (by show w.heap.size≤mr;omega) _
      ·exact(heap_setCell_other wr ⟨mr,k,none⟩ _ _ (by simp only;omega)).trans ((HB0.out.block _ (by omega)).trans HKS.out)
      ·exact q4v (HRS.out.below HB0.out) (fun b' o' e=>by simp only[Option.some.injEq,Addr.mk.injEq] at e;omega) k _
     case measure=>simp[intOf];omega
  ·obtain rfl:i=L.length:=by omega
   have hRM:RM= .ok M:=by
    have:=HSt.out;rw[List.drop_length,qcu] at this;exact this.symm
   have hsm:=HDone.out m (by rw[List.take_length];exact HNm.out);obtain⟨⟨l2,f2,wk2⟩,hs⟩:=Option.isSome_iff_exists.1 hsm;have HRx:=q6q (show R= .ok (l2,f2,wk2) by rw[HRo.out M hRM,hs];rfl);obtain⟨wS,n,t,mb,N,D,h1,h2,h3,h4,h5,h6⟩:=HFin.out m _ hs;have HMm:=q6q h5;have HSm:=q6q h6;have HBS:=q6q h4;obtain⟨cm,fm⟩:=HRow.out.cell (j:=m) (by omega);rw[show ptrX M G m= .pointer (some ⟨G m,0,none⟩) by unfold ptrX;rw[hs]] at cm;have hfb:∀k t,f2 k=some t→k.length≤1000000∧t.length≤1000000:=fun k t h=>by have:=HSm.out.2 k t h;omega
   have HIm:=q6q (qwm HMm.out (HS.out.below HBS.out) (by omega) (by omega) hfb);generalize G m=gm at cm HIm;clear hRM hsm hs h5 h6 h4 hfb HFin HDone HSt HRow HMm HSm HRM fm;go_wp2_with fail;refine HIm.out.mono ?_;rintro _ w5 ⟨v,A,cA,ks,rfl,hrow,hnd,hks,hown,hb5⟩;obtain⟨va,vc,rfl⟩:=qad hown;have hk5:=(hb5.block _ (q6s HKi.out).1).trans HKi.out;have HO5:=q6q hown;have HW5:=q6q hrow;have HNd:=q6q (And.intro hnd hks);have HB5:=q6q (HBr.out.trans (hb5.mono HBr.out.size));have HK5:=q6q hk5;obtain⟨j0,j1,j2,f0,f1,f2'⟩:=qbj hk5;have hwl:=(q6s HKi.out).1;clear hown hb5 hk5 HKi HBr hrow hnd hks cm HIm
   generalize hg0:w.heap.size=g0 at j0 j1 j2 f0 f1 f2' HK5 hwl ⊢;go_wp2;have h0:=heap_setCell_same w5 g0 0 _ _ (.slice A ks.length cA) HK5.out;have h1:=heap_setCell_same _ g0 1 _ _ (.string (S (47::wk2))) h0;have h2:=heap_setCell_same _ g0 2 _ _ (.slice va l2.length vc) h1;obtain⟨v0,v1,v2,_,_,_⟩:=qbj h2;have hbe:=((HB5.out.setCell (p:=⟨g0,0,none⟩) (by show w.heap.size≤g0;omega) (.slice A ks.length cA)).setCell (p:=⟨g0,1,none⟩) (by show w.heap.size≤g0;omega) (.string (S (47::wk2)))).setCell (p:=⟨g0,2,none⟩) (by show w.heap.size≤g0;omega) (.slice va l2.length vc)
   have hoe:=ownsRow_setCell_below (ownsRow_setCell_below (ownsRow_setCell_below HO5.out (a:=⟨g0,0,none⟩) (by show g0<wr.heap.size;omega) (.slice A ks.length cA)) (a:=⟨g0,1,none⟩) (by show g0<wr.heap.size;omega) (.string (S (47::wk2)))) (a:=⟨g0,2,none⟩) (by show g0<wr.heap.size;omega) (.slice va l2.length vc);have hwe:=ownsRow_setCell_below (ownsRow_setCell_below (ownsRow_setCell_below HW5.out (a:=⟨g0,0,none⟩) (by show g0<wr.heap.size;omega) (.slice A ks.length cA)) (a:=⟨g0,1,none⟩) (by show g0<wr.heap.size;omega) (.string (S (47::wk2)))) (a:=⟨g0,2,none⟩) (by show g0<wr.heap.size;omega) (.slice va l2.length vc)
   refine bodyPost_ret (by simp[results,Tryz.results34,go_sem,v0,v1,v2,Result.andThen];try rfl) rfl ?_;rw[HRx.out];exact⟨⟨_,A,cA,ks,rfl,qak hwe (by omega),HNd.out.1,HNd.out.2,qak hoe (by omega)⟩,hbe⟩
end Go.Proofs.YtikdblkfjchjbaaGreatDoor
